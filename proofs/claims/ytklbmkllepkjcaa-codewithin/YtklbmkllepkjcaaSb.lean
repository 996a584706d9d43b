/- Arguments' readings, of whatever type of plain cells and slices. No condition. -/
import Derived.Test.YtklbmkllepkjcaaW1
import Derived.Deep.Slices
import Derived.KernelRfl
namespace Go.Proofs.Ytklbmkllepkjcaa
open Go.ChangeShapes Go.WideShapes Go.ChangeAt Go.RowKit Go.Deep
def ZnI(P:Program)(f:TypeId→Option (List Sh)):Nat→List Field→Option (List Sh)
 |_,[]=>some []
 |off,fd::fds=>match fd.offset==off,f fd.type with
  |true,some l=>(match P.cellsOf fd.type==l.length,ZnI P f (off+l.length) fds with
   |true,some r=>some (l++r)
   |_,_=>none)
  |_,_=>none
def Ztf(ag:Bool)(l:List Sh):Option Sh:=match ag,l with
 |_,[]=>none
 |true,s::ss=>some (.agg (s::ss))
 |false,[s]=>some s
 |false,_=>none
def ZwQ:Sh→Sh
 | .int k=>.ints k
 |s=>.big s
def ZBQ(P:Program)(f:TypeId→Option (List Sh)):TypeDesc→Option (List Sh)
 | .int k=>some [.int k]
 | .bool=>some [.bool]
 | .string=>some [.str]
 | .struct fs=>ZnI P f 0 fs.toList
 | .array n e=>match f e with
   |some l=>(match P.cellsOf e==l.length with |true=>some (List.replicate n l).flatten |false=>none)
   |none=>none
 | .slice e=>match f e,P.underlying e with
   |some l,some de=>(match P.cellsOf e==l.length,Ztf (ZaH de) l with |true,some s=>some [ZwQ s] |_,_=>none)
   |_,_=>none
 |_=>none
def ZrA(P:Program):Nat→TypeId→Option (List Sh)
 |0,_=>none
 |d+1,t=>match P.underlying t with
  |some td=>(match ZBQ P (ZrA P d) td with
   |some l=>(match P.cellsOf t==l.length with |true=>some l |false=>none)
   |none=>none)
  |none=>none
def wfE(ss:List Sh)(x:AV):Prop:=∀(j:Nat) (k:IntKind),ss[j]? =some (.int k)→(Lit.int k (x.cellAt j).toI).wf=true
def wfV:AV→Prop
 | .int k n=>(Lit.int k n).wf=true
 | .list (.ints k l)=>∀x∈l,(Lit.int k x).wf=true
 | .list (.big (.agg ss) l)=>∀x∈l,wfE ss x
 |_=>True
def Sh.leaf:Sh→Bool
 | .agg _=>false
 |_=>true
def Cf(s:Sh)(u:AV):Prop:=(∃a,u=s.view1 a)∧wfV u∧s.leaf=true
def Cfs(ss:List Sh)(us:List AV):Prop:=us.length=ss.length∧∀(j:Nat) (s:Sh) (u:AV),ss[j]? =some s→us[j]? =some u→Cf s u
def Rd(W:World)(L:Lay)(ss:List Sh)(cs:List Value):Prop:=∃us:List AV,RelL W (ZhV W) [] L us cs∧(∀c∈cs,c.oneCell'=true)∧Cfs ss us
section
variable {H:Type}{enc:TypeId×Value→H}{P:Program}{W:World}{L:Lay}
theorem Cfs.app{s1 s2:List Sh}{u1 u2:List AV}(h1:Cfs s1 u1)(h2:Cfs s2 u2):Cfs (s1++s2) (u1++u2):=by
 refine⟨by simp[h1.1,h2.1],fun j s u hs hu=>?_⟩
 by_cases hj:j<s1.length
 ·rw[List.getElem?_append_left hj]at hs
  rw[List.getElem?_append_left (by rw[h1.1];exact hj)]at hu
  exact h1.2 j s u hs hu
 ·rw[List.getElem?_append_right (by omega)]at hs
  rw[List.getElem?_append_right (by rw[h1.1];omega),h1.1]at hu
  exact h2.2 _ s u hs hu
theorem Rd.app{s1 s2:List Sh}{c1 c2:List Value}(h1:Rd W L s1 c1)(h2:Rd W L s2 c2):Rd W L (s1++s2) (c1++c2):=by
 obtain⟨u1,r1,o1,f1⟩:=h1
 obtain⟨u2,r2,o2,f2⟩:=h2
 exact⟨u1++u2,r1.append r2,fun c hc=>(List.mem_append.1 hc).elim (o1 c) (o2 c),f1.app f2⟩
theorem Rd.nil:Rd W L [] []:=⟨[],RelL.nil,by simp,rfl,fun j s u hs=>by simp at hs⟩
theorem Rd.len{ss:List Sh}{cs:List Value}(h:Rd W L ss cs):cs.length=ss.length:=by
 obtain⟨us,r,_,f⟩:=h
 rw[←r.1,f.1]
theorem Rd.one{s:Sh}{v:Value}{u:AV}(hr:Rel W (ZhV W) [] L u v)(h1:v.oneCell'=true)(hc:Cf s u):Rd W L [s] [v]:=
 ⟨[u],RelL.cons hr RelL.nil,by simpa using h1,rfl,fun j s' u' hs hu=>by
   cases j with
   |zero=>simp at hs hu;subst hs;subst hu;exact hc
   |succ j=>simp at hs⟩
theorem Zx5{f:TypeId→Option (List Sh)}{n:Nat}(IH:∀t ss,f t=some ss→∀fuel cs x,DataW.trod enc P W 0 (fun _=>true) true fuel t cs=some x→Rd W L ss cs){cs:List Value} :
 ∀(fs:List Field) (off:Nat) (ss:List Sh),ZnI P f off fs=some ss→(∀(i:Nat) (fd:Field),fs[i]? =some fd→∃x,DataW.trod enc P W 0 (fun _=>true) true n fd.type ((cs.drop fd.offset).take (P.cellsOf fd.type))=some x)→
 (cs.drop off).length=ss.length→Rd W L ss (cs.drop off)
 |[],off,ss,h,_,hl=>by
  simp only[ZnI,Option.some.injEq]at h
  subst h
  rw[List.eq_nil_of_length_eq_zero hl]
  exact Rd.nil
 |fd::fds,off,ss,h,hx,hl=>by
  simp only[ZnI]at h
  split at h
  ·rename_i l ho hfl
   split at h
   ·rename_i r hcl hr
    simp only[Option.some.injEq]at h
    subst h
    have ho:fd.offset=off:=by simpa using ho
    have hcl:P.cellsOf fd.type=l.length:=by simpa using hcl
    obtain⟨x,hxx⟩:=hx 0 fd rfl
    rw[ho,hcl]at hxx
    have h1:=IH _ _ hfl _ _ _ hxx
    have h2:=Zx5 IH fds (off+l.length) r hr (fun i fd' h'=>hx (i+1) fd' (by simpa using h')) (by simp at hl ⊢;omega)
    have:=h1.app h2
    rw[show cs.drop (off+l.length)=(cs.drop off).drop l.length by rw[List.drop_drop],List.take_append_drop]at this
    exact this
   ·cases h
  ·cases h
theorem ZrX{l:List Sh}{n c:Nat}{e:TypeId}{cs:List Value}(hc:c=l.length)(IH:∀i,i<n→Rd W L l ((cs.drop (i*c)).take c)):
 ∀(k s:Nat),s+k=n→cs.length=n*c→Rd W L (List.replicate k l).flatten (cs.drop (s*c))
 |0,s,hs,hl=>by
  rw[List.drop_of_length_le (by rw[hl,←hs];simp)]
  exact Rd.nil
 |k+1,s,hs,hl=>by
  have h1:=IH s (by omega)
  have h2:=ZrX (e:=e) hc IH k (s+1) (by omega) hl
  have:=h1.app h2
  rw[Nat.add_mul,Nat.one_mul,show cs.drop (s*c+c)=(cs.drop (s*c)).drop c by rw[List.drop_drop],List.take_append_drop]at this
  rw[List.replicate_succ,List.flatten_cons]
  exact this
theorem Zfq:∀ {l:List AV},(∀u∈l,u.pure=true)→AV.pureL l=true
 |[],_=>rfl
 |u::l,h=>by simp only[AV.pureL,Bool.and_eq_true];exact⟨h u (by simp),Zfq fun v hv=>h v (by simp[hv])⟩
theorem ZhW{α:Type}{sz:Nat}(g:Nat→List α):∀(n:Nat),(∀i,i<n→(g i).length=sz)→∀j,((List.range n).flatMap g)[j]? =if j<n*sz then(g (j/sz))[j%sz]? else none
 |0,_,j=>by simp
 |n+1,hg,j=>by
  have ih:=ZhW g n (fun i hi=>hg i (by omega))
  have hlen:((List.range n).flatMap g).length=n*sz:=by
   apply Nat.le_antisymm
   ·have h1:=ih (n*sz)
    rw[if_neg (by omega)]at h1
    simpa using h1
   ·rcases Nat.lt_or_ge ((List.range n).flatMap g).length (n*sz)with h |h
    ·have h1:=ih ((List.range n).flatMap g).length
     rw[if_pos h,List.getElem?_eq_none (Nat.le_refl _)]at h1
     have hz:0<sz:=by rcases Nat.eq_zero_or_pos sz with h0 |h0;· subst h0;simp at h
                      ·exact h0
     have h2:((List.range n).flatMap g).length/sz<n:=by rw[Nat.div_lt_iff_lt_mul hz];exact h
     rw[List.getElem?_eq_getElem (by rw[hg _ (by omega)];exact Nat.mod_lt _ hz)]at h1
     cases h1
    ·exact h
  rw[List.range_succ,List.flatMap_append,List.flatMap_singleton]
  by_cases hj:j<n*sz
  ·rw[List.getElem?_append_left (by omega),ih,if_pos hj,if_pos (by rw[Nat.add_mul];omega)]
  ·rw[List.getElem?_append_right (by omega),hlen]
   by_cases hj2:j<(n+1)*sz
   ·rw[if_pos hj2]
    rw[Nat.add_mul,Nat.one_mul]at hj2
    have hz:0<sz:=by omega
    have e1:j/sz=n:=by
     rw[Nat.div_eq_iff hz];constructor
     ·rw[Nat.mul_comm]at hj ⊢;omega
     ·omega
    have e2:j%sz=j-n*sz:=by
     have:=Nat.div_add_mod j sz
     rw[e1,Nat.mul_comm]at this;omega
    rw[e1,e2]
   ·rw[if_neg hj2]
    exact List.getElem?_eq_none (by rw[hg n (by omega)];rw[Nat.add_mul]at hj2;omega)
theorem Zmw(s:Sh)(a:AV):s.view1 (s.view1 a)=s.view1 a:=by cases s<;>rfl
theorem Zje:∀ {ss:List Sh} {us pre:List AV},Cfs ss us→ZdB ss pre.length (.agg (.gen (pre++us)))=us
 |[],us,pre,h=>by have:=h.1;cases us<;>simp at this;rfl
 |s::ss,us,pre,h=>by
  cases us with
  |nil=>have:=h.1;simp at this
  |cons u us=>
   obtain⟨a,rfl⟩:=(h.2 0 s u rfl rfl).1
   have ht:Cfs ss us:=⟨by have:=h.1;simpa using this,fun j s' u' hs hu=>h.2 (j+1) s' u' (by simpa using hs) (by simpa using hu)⟩
   have:=Zje (pre:=pre++[s.view1 a]) ht
   rw[List.append_assoc,List.length_append]at this
   simp only[List.length_singleton,List.singleton_append]at this
   simp only[ZdB,this]
   congr 1
   simp only[AV.cellAt,List.getD_eq_getElem?_getD,List.getElem?_append_right (Nat.le_refl _),Nat.sub_self,List.getElem?_cons_zero,Option.getD_some]
   exact Zmw s a
theorem Zp3{ss:List Sh}{us:List AV}(h:Cfs ss us):∀u∈us,u.pure=true∧u.single=true:=fun u hu=>by
 obtain⟨j,hj⟩:=List.mem_iff_getElem?.1 hu
 have hlt:=(List.getElem?_eq_some_iff.1 hj).1
 obtain⟨a,rfl⟩:=(h.2 j _ u (List.getElem?_eq_getElem (by rw[←h.1];exact hlt)) hj).1
 exact⟨ZeI _ _,ZcU _ _⟩
def ZuL(ag:Bool)(us:List AV):AV:=match ag with |true=>.agg (.gen us) |false=>us.getD 0 .top
theorem ZfN{ag:Bool}{ss:List Sh}{s:Sh}{us:List AV}(hs:Ztf ag ss=some s)(h:Cfs ss us):s.view (ZuL ag us)=ZuL ag us∧(ZuL ag us).flat=us:=by
 unfold Ztf at hs
 split at hs
 ·cases hs
 ·rename_i s1 ss1
  cases hs
  refine⟨?_,rfl⟩
  have:=Zje (pre:=[]) h
  simp only[List.nil_append,List.length_nil]at this
  simp only[Sh.view,ZuL,this]
 ·rename_i s1
  cases hs
  have hl:=h.1
  match us,hl with
  |[u],_=>
   obtain⟨⟨a,rfl⟩,_,hlf⟩:=h.2 0 _ u rfl rfl
   refine⟨?_,Zbg (ZcU _ _)⟩
   show s.view (s.view1 a)=s.view1 a
   cases s with
   |agg l=>cases hlf
   |_=>rfl
 ·cases hs
def Zeg(s:Sh)(es:List AV):Row:=match s with
 | .int k=>.ints k (es.map AV.toI)
 |s=>.big s es
theorem Zfg(s:Sh)(es:List AV):(Zeg s es).elems=es.map s.view:=by
 cases s<;>simp[Zeg,Row.elems,Sh.view,Sh.view1,List.map_map,Function.comp_def]
theorem Zgv(s:Sh)(es:List AV):AV.list (Zeg s es)=(ZwQ s).view1 (.list (Zeg s es)):=by cases s<;>rfl
theorem ZiQ(s:Sh):(ZwQ s).leaf=true:=by cases s<;>rfl
theorem Zj0{g:Nat→AV}{u:Nat→List AV}{n:Nat}(h:∀i,i<n→(g i).flat=u i):Zae ((List.range n).map g)=(List.range n).flatMap u:=by
 unfold Zae
 rw[List.flatMap_map]
 exact flatMap_congr_range h
theorem Zy7(a:Addr)(i sz j:Nat):(a.add (i*sz)).add j=a.add (i*sz+j):=ZeZ a _ _
theorem ZxV{t e:TypeId}{de:TypeDesc}{l:List Sh}{s:Sh}(ht:P.underlying t=some (.slice e))(hcl:P.cellsOf e=l.length)(hs:Ztf (ZaH de) l=some s)
 (IH:∀fuel cs x,DataW.trod enc P W 0 (fun _=>true) true fuel e cs=some x→Rd W L l cs) {fuel:Nat} {cs:List Value} {x:DataW H×List MemPlace} (h:DataW.trod enc P W 0 (fun _=>true) true fuel t cs=some x):Rd W L [ZwQ s] cs:=by
 have hpos:0<l.length:=by
  unfold Ztf at hs
  split at hs<;>first |(cases hs;done) |simp
 have emp:∀ad c,Rd W L [ZwQ s] [.slice ad 0 c]:=fun ad c=>Rd.one (u:=.list (Zeg s [])) (.nil _ ad c (by rw[Zfg];rfl)) rfl ⟨⟨_,Zgv s []⟩,by cases s<;>simp[Zeg,wfV],ZiQ s⟩
 rcases open_slice ht h with⟨rfl,_⟩ |⟨a,len,cap,m,n,D,Pl,rfl,hb,hl,hm,hmm,_,hx⟩
 ·exact emp none 0
 ·by_cases h0:len=0
  ·subst h0;exact emp (some a) cap
  ·simp only[if_true]at hmm
   subst hmm
   obtain⟨F,hF⟩:=choose_lt (α:=List Value×List AV) (n:=len) (p:=fun i p=>W.cells? 0 (a.add (i*P.cellsOf e)) (P.cellsOf e)=some p.1∧RelL W (ZhV W) [] L p.2 p.1∧(∀c∈p.1,c.oneCell'=true)∧Cfs l p.2) (fun i hi=>by
    obtain⟨cs',h1,h2⟩:=hx i (by omega)
    obtain⟨us,r,o,f⟩:=IH _ _ _ h2
    exact⟨(cs',us),h1,r,o,f⟩)
   rw[hcl]at hF
   have hcells:∀i,i<len→(F i).1.length=l.length∧∀j,j<l.length→W.cell? (a.add (i*l.length+j))=(F i).1[j]?:=fun i hi=>by
    obtain⟨_,g1,g2⟩:=World.cells?_some (hF i hi).1
    exact⟨g1,fun j hj=>by rw[←Zy7];exact g2 j hj⟩
   have hul:∀i,i<len→(F i).2.length=l.length:=fun i hi=>(hF i hi).2.2.2.1
   obtain⟨es,hes⟩:∃es,es=(List.range len).map fun i=>ZuL (ZaH de) (F i).2:=⟨_,rfl⟩
   have hview:es.map s.view=es:=by
    rw[hes,List.map_map]
    exact List.map_congr_left fun i hi=>(ZfN hs (hF i (List.mem_range.1 hi)).2.2.2).1
   have hfl:Zae es=(List.range len).flatMap fun i=>(F i).2:=by
    rw[hes];exact Zj0 fun i hi=>(ZfN hs (hF i hi).2.2.2).2
   have hsz:∀x∈es,x.flat.length=l.length:=fun x hx=>by
    rw[hes]at hx
    obtain⟨i,hi,rfl⟩:=List.mem_map.1 hx
    rw[(ZfN hs (hF i (List.mem_range.1 hi)).2.2.2).2]
    exact hul i (List.mem_range.1 hi)
   have hlen:es.length=len:=by rw[hes];simp
   have gU:=ZhW (fun i=>(F i).2) len hul
   have gV:=ZhW (fun i=>(F i).1) len (fun i hi=>(hcells i hi).1)
   have hlt:a.block<W.heap.size:=by
    have h1:=(hcells 0 (by omega)).2 0 hpos
    rw[List.getElem?_eq_getElem (by rw[(hcells 0 (by omega)).1];exact hpos)]at h1
    have:=ZtV h1
    rw[Zch]at this;exact this
   have hidx:∀j,j<len*l.length→j/l.length<len∧j%l.length<l.length:=fun j hj=>⟨by rw[Nat.div_lt_iff_lt_mul hpos];exact hj,Nat.mod_lt _ hpos⟩
   refine Rd.one (u:=.list (Zeg s es)) ?_ rfl ⟨⟨_,Zgv s es⟩,?_,ZiQ s⟩
   ·refine .list (Zeg s es) es (by rw[Zfg,hview]) a len _ l.length ((List.range len).flatMap fun i=>(F i).1) hlt hlt hlen.symm hl hsz ?_ ?_ ?_ ?_ ?_
    ·rw[hfl]
     have e1:∀(g:Nat→List Value) (k:Nat→List AV) (n:Nat),(∀i,i<n→(g i).length=(k i).length)→((List.range n).flatMap g).length=((List.range n).flatMap k).length:=by
      intro g k n
      induction n with
      |zero=>intro _;rfl
      |succ n ih=>
       intro hgk
       rw[List.range_succ,List.flatMap_append,List.flatMap_append,List.length_append,List.length_append,ih (fun i hi=>hgk i (by omega))]
       simp[hgk n (by omega)]
     exact e1 _ _ _ fun i hi=>by rw[(hcells i hi).1,hul i hi]
    ·intro c hc
     obtain⟨i,hi,hc⟩:=List.mem_flatMap.1 hc
     exact(hF i (List.mem_range.1 hi)).2.2.1 c hc
    ·intro j v hj
     rw[gV j]at hj
     split at hj
     ·rename_i hjl
      obtain⟨q1,q2⟩:=hidx j hjl
      have:=(hcells _ q1).2 _ q2
      rw[show j/l.length*l.length+j%l.length=j by rw[Nat.mul_comm];exact Nat.div_add_mod j _]at this
      rw[this,hj]
     ·cases hj
    ·rw[hfl]
     exact Zfq fun u hu=>by
      obtain⟨i,hi,hu⟩:=List.mem_flatMap.1 hu
      exact(Zp3 (hF i (List.mem_range.1 hi)).2.2.2 u hu).1
    ·intro j u v hu hv
     rw[hfl,gU j]at hu
     rw[gV j]at hv
     split at hu
     ·rename_i hjl
      rw[if_pos hjl]at hv
      exact(hF _ (hidx j hjl).1).2.1.2 _ u v hu hv
     ·cases hu
   ·unfold Zeg
    split
    ·rename_i k
     simp only[wfV]
     intro z hz
     obtain⟨e1,he1,rfl⟩:=List.mem_map.1 hz
     rw[hes]at he1
     obtain⟨i,hi,rfl⟩:=List.mem_map.1 he1
     have hc:=(hF i (List.mem_range.1 hi)).2.2.2
     unfold Ztf at hs
     split at hs
     ·cases hs
     ·cases hs
     ·rename_i s1 hag
      cases hs
      have hl1:=hc.1
      rw[show ZaH de=false from by first |assumption |(rename_i hx _ _;exact hx)] 
      match hq:(F i).2,hl1 with
      |[u],_=>
       obtain⟨⟨a,ha⟩,hw,_⟩:=hc.2 0 (.int k) u rfl (by rw[hq];rfl)
       subst ha
       exact hw
     ·cases hs
    ·cases s with
     |agg ss=>
      show ∀x∈es,wfE ss x
      intro x hx j k hj
      rw[hes]at hx
      obtain⟨i,hi,rfl⟩:=List.mem_map.1 hx
      have hc:=(hF i (List.mem_range.1 hi)).2.2.2
      unfold Ztf at hs
      split at hs
      ·cases hs
      ·rename_i s1 ss1 hag
       cases hs
       rw[show ZaH de=true from by first |assumption |(rename_i hx2 _ _;exact hx2)]
       have hlt2:j<(F i).2.length:=by
        rw[hc.1]
        exact(List.getElem?_eq_some_iff.1 hj).1
       obtain⟨⟨a,ha⟩,hw,_⟩:=hc.2 j (.int k) _ hj (List.getElem?_eq_getElem hlt2)
       have he:(ZuL true (F i).2).cellAt j=(F i).2[j]:=by simp[ZuL,AV.cellAt,List.getD_eq_getElem?_getD,List.getElem?_eq_getElem hlt2]
       rw[he,ha]
       rw[ha]at hw
       exact hw
      ·rename_i s1 hag
       cases hs
       have hl1:=hc.1
       match hq:(F i).2,hl1 with
       |[u],_=>
        obtain⟨_,_,hlf⟩:=hc.2 0 (.agg ss) u rfl (by rw[hq];rfl)
        cases hlf
      ·cases hs
     |_=>trivial
theorem Zob:∀(d:Nat) (t:TypeId) (ss:List Sh),ZrA P d t=some ss→∀(fuel:Nat) (cs:List Value) (x:DataW H×List MemPlace),DataW.trod enc P W 0 (fun _=>true) true fuel t cs=some x→Rd W L ss cs
 |0,t,ss,h,_,_,_,_=>by simp[ZrA]at h
 |d+1,t,ss,h,fuel,cs,x,hx=>by
  have IH:=Zob d
  simp only[ZrA]at h
  split at h
  ·rename_i td ht
   split at h
   ·rename_i l hl
    split at h
    ·rename_i hsz
     simp only[Option.some.injEq]at h
     subst h
     have hsz:P.cellsOf t=l.length:=by simpa using hsz
     unfold ZBQ at hl
     split at hl
     ·rename_i k
      cases hl
      obtain⟨n,rfl,_,hw⟩:=DataW.trod_int ht hx
      exact Rd.one (.int k n) rfl ⟨⟨.int k n,rfl⟩,hw,rfl⟩
     ·cases hl
      obtain⟨b,rfl,_⟩:=DataW.trod_bool ht hx
      exact Rd.one (.bool b) rfl ⟨⟨.bool b,rfl⟩,trivial,rfl⟩
     ·cases hl
      obtain⟨s,rfl,_,_⟩:=DataW.trod_string ht hx
      have e:s=⟨s.data.toList.toArray⟩:=by simp
      refine Rd.one (u:=.str s.data.toList) ?_ rfl ⟨⟨.str s.data.toList,rfl⟩,trivial,rfl⟩
      have:=Rel.str (w:=W) (ok:=ZhV W) (h:=[]) (L:=L) s.data.toList
      rw[←e]at this
      exact this
     ·rename_i fs
      obtain⟨xs,n,_,_,hlen,hxl,hf⟩:=DataW.trod_struct ht hx
      have:=Zx5 (P:=P) (W:=W) (L:=L) (enc:=enc) (n:=n) IH (cs:=cs) fs.toList 0 l hl (fun i fd hfd=>by
       have hfd':fs[i]? =some fd:=by simpa using hfd
       have h1:=hf i fd hfd'
       have hi:i<xs.length:=by rw[hxl];exact(Array.getElem?_eq_some_iff.1 hfd').1
       exact⟨xs[i],by rw[h1,List.getElem?_eq_getElem hi]⟩) (by simp[hlen,hsz])
      simpa using this
     ·rename_i n e
      split at hl
      ·rename_i le hle
       split at hl
       ·rename_i hce
        simp only[Option.some.injEq]at hl
        subst hl
        have hce:P.cellsOf e=le.length:=by simpa using hce
        obtain⟨xs,m,_,_,hlen,hxl,hf⟩:=DataW.trod_array ht hx
        have:=ZrX (W:=W) (L:=L) (l:=le) (n:=n) (c:=P.cellsOf e) (e:=e) (cs:=cs) hce (fun i hi=>by
         have h1:=hf i hi
         rw[List.getElem?_eq_getElem (by rw[hxl];exact hi)]at h1
         exact IH _ _ hle _ _ _ h1) n 0 (by simp) (by rw[hlen,hsz,hce];simp)
        simpa using this
       ·cases hl
      ·cases hl
     ·rename_i e
      split at hl
      ·rename_i le de hle hde
       split at hl
       ·rename_i s hce hs
        simp only[Option.some.injEq]at hl
        subst hl
        exact ZxV ht (by simpa using hce) hs (fun fuel cs x hx=>IH _ _ hle fuel cs x hx) hx
       ·cases hl
      ·cases hl
     ·cases hl
    ·cases h
   ·cases h
  ·cases h
theorem Zsk{d:Nat}{t:TypeId}{ss:List Sh}(hs:ZrA P d t=some ss){v:Value}{dd:DataW H}{ps:List MemPlace}(hv:∃cs,v=.agg cs∧cs.size=P.cellsOf t)(h:DataW.Trod enc P W 0 (fun _=>true) true t v dd ps):
 ∃us,Rel W (ZhV W) [] L (.agg (.gen us)) v∧Cfs ss us:=by
 obtain⟨cs,rfl,_⟩:=hv
 obtain⟨fuel,hf⟩:=h
 obtain⟨us,r,o,f⟩:=Zob (L:=L) d t ss hs fuel _ _ hf
 exact⟨us, .agg _ us rfl cs (by simpa[Value.cells]using r.1) (fun c hc=>o c (by simpa[Value.cells]using hc)) (fun j u v hu hv=>r.2 j u v hu (by simpa[Value.cells]using hv)),f⟩
theorem ZwC{d:Nat}{t:TypeId}{s:Sh}(hs:ZrA P d t=some [s]){v:Value}{dd:DataW H}{ps:List MemPlace}(hv:v.oneCell'=true)(h:DataW.Trod enc P W 0 (fun _=>true) true t v dd ps):
 ∃u,Rel W (ZhV W) [] L u v∧Cf s u:=by
 obtain⟨fuel,hf⟩:=h
 have hcs:v.cells.toList=[v]:=by cases v<;>first |rfl |(simp [Value.oneCell']at hv)
 obtain⟨us,r,o,f⟩:=Zob (L:=L) d t [s] hs fuel _ _ hf
 rw[hcs]at r
 match us,f.1 with
 |[u],_=>exact⟨u,r.2 0 u v rfl rfl,f.2 0 s u rfl rfl⟩
end
end Go.Proofs.Ytklbmkllepkjcaa
/- The cells of some types, as they are read. No condition. -/
namespace Go.Proofs.Ytklbmkllepkjcaa
theorem ZlV{k:IntKind}{u:AV}(h:Cf (.int k) u):∃n,u=.int k n∧(Lit.int k n).wf=true:=by
 obtain⟨⟨a,rfl⟩,hw,_⟩:=h
 exact⟨_,rfl,hw⟩
theorem ZoY{k:IntKind}{u:AV}(h:Cf (.ints k) u):∃l:List Int,u=.list (.ints k l)∧∀x∈l,(Lit.int k x).wf=true:=by
 obtain⟨⟨a,rfl⟩,hw,_⟩:=h
 exact⟨_,rfl,hw⟩
theorem ZnQ{us:List AV}(h:Cfs [] us):us=[]:=List.eq_nil_of_length_eq_zero h.1
theorem Zed{s:Sh}{ss:List Sh}{us:List AV}(h:Cfs (s::ss) us):∃u r,us=u::r∧Cf s u∧Cfs ss r:=by
 cases us with
 |nil=>have:=h.1;simp at this
 |cons u r=>exact⟨u,r,rfl,h.2 0 s u rfl rfl,by have:=h.1;simpa using this,fun j s' u' hs hu=>h.2 (j+1) s' u' (by simpa using hs) (by simpa using hu)⟩
end Go.Proofs.Ytklbmkllepkjcaa
/- The cells of the laws' types, as they are read. No condition. -/
namespace Go.Proofs.Ytklbmkllepkjcaa
theorem ZuT{us:List AV}(h:Cfs [.int .i64, .int .i64, .int .i64] us):∃a b c,us=[.int .i64 a, .int .i64 b, .int .i64 c]:=by
 obtain⟨u,r,rfl,h1,h⟩:=Zed h
 obtain⟨u2,r,rfl,h2,h⟩:=Zed h
 obtain⟨u3,r,rfl,h3,h⟩:=Zed h
 obtain rfl:=ZnQ h
 obtain⟨a,rfl,_⟩:=ZlV h1
 obtain⟨b,rfl,_⟩:=ZlV h2
 obtain⟨c,rfl,_⟩:=ZlV h3
 exact⟨a,b,c,rfl⟩
theorem Znl{us:List AV}(h:Cfs [.ints .i64, .int .i64] us):∃(a:List Int) (b:Int),us=[.list (.ints .i64 a), .int .i64 b]:=by
 obtain⟨u,r,rfl,h1,h⟩:=Zed h
 obtain⟨u2,r,rfl,h2,h⟩:=Zed h
 obtain rfl:=ZnQ h
 obtain⟨a,rfl,_⟩:=ZoY h1
 obtain⟨b,rfl,_⟩:=ZlV h2
 exact⟨a,b,rfl⟩
end Go.Proofs.Ytklbmkllepkjcaa
/- Paths of functions, printed by the explorer (Gx). No condition. -/
namespace Go.Proofs.Ytklbmkllepkjcaa
set_option maxRecDepth 100000
set_option linter.unusedVariables false
def Zr0(xs:List Int):AFrame:={ fn:=104,N:=8,env:=[(0,AV.list (.ints .i64 xs))],todo:=[.code a104.code],defs:=[],rnd:=none,ret:=false,res:=[ARes.tmp 2] }
def ZA5(xs:List Int):List AFrame:=[(Zr0 xs)]
theorem Zrz(xs:List Int):Zax tab 104 [AV.list (.ints .i64 xs)]=some (Zr0 xs):=rfl
def Zsp(A:Ar)(K:KT)(F:FT)(xs:List Int):Prop:=rB [Nat.blt 0 (A.len xs)] (rB [Nat.ble (0+A.len xs) 4294967296,List.all [] fun x=>AV.bx x&&Nat.beq (Zam A x) 1] (F (AV.row 0 0) (some { e:=3,sz:=1,r:=.ints .i64 xs })))
theorem ZyB{A:Ar}{K:KT}{F:FT}{M:MT}{xs:List Int} :ZaA A tab E0 104 K F M (.run 10 (.fy (.run 9 (.fn)))) (ZA5 xs) []=Zsp A K F xs:=by kernel_rfl
def Zni(cap:Nat):AFrame:={ fn:=104,N:=8,env:=[(0,AV.val (Go.Value.slice none 0 cap))],todo:=[.code a104.code],defs:=[],rnd:=none,ret:=false,res:=[ARes.tmp 2] }
def ZvL(cap:Nat):List AFrame:=[(Zni cap)]
theorem ZoF(cap:Nat):Zax tab 104 [AV.val (Go.Value.slice none 0 cap)]=some (Zni cap):=rfl
def Znz(A:Ar)(K:KT)(F:FT)(cap:Nat):Prop:=F (AV.nils) (none)
theorem Zta{A:Ar}{K:KT}{F:FT}{M:MT}{cap:Nat} :ZaA A tab E0 104 K F M (.run 10 (.ty (.run 5 (.fn)))) (ZvL cap) []=Znz A K F cap:=by kernel_rfl
def Zpf(ad:Go.Addr)(cap:Nat):AFrame:={ fn:=104,N:=8,env:=[(0,AV.val (Go.Value.slice (some ad) 0 cap))],todo:=[.code a104.code],defs:=[],rnd:=none,ret:=false,res:=[ARes.tmp 2] }
def Zyn(ad:Go.Addr)(cap:Nat):List AFrame:=[(Zpf ad cap)]
theorem Zn0(ad:Go.Addr)(cap:Nat):Zax tab 104 [AV.val (Go.Value.slice (some ad) 0 cap)]=some (Zpf ad cap):=rfl
def ZnW(A:Ar)(K:KT)(F:FT)(ad:Go.Addr)(cap:Nat):Prop:=rB [List.all [] fun x=>AV.bx x&&Nat.beq (Zam A x) 1] (F (AV.row 0 0) (some { e:=3,sz:=1,r:=Row.gen [] }))
theorem Zuv{A:Ar}{K:KT}{F:FT}{M:MT}{ad:Go.Addr}{cap:Nat} :ZaA A tab E0 104 K F M (.run 10 (.fy (.run 9 (.fn)))) (Zyn ad cap) []=ZnW A K F ad cap:=by kernel_rfl
end Go.Proofs.Ytklbmkllepkjcaa
/- Contracts as a list. No condition. -/
namespace Go.Proofs.Ytklbmkllepkjcaa
theorem Zf0(xs:List Int)(h:xs.length≤1000000):Zah Try.prog 104 [.list (.ints .i64 xs)] (.row 0 0) (some ⟨3,1, .ints .i64 xs⟩):=by
 by_cases h0:xs=[]
 ·subst h0
  refine ZmI rfl fun ad cap=>?_
  cases ad with
  |none=>exact Zq0 (r0:=.nils) (start (ZoF cap) fun C hC=>tgo hC ZrQ Zta (by simp[Znz])) rfl rfl (by omega)
  |some ad=>exact ZpF (r:=.gen []) (start (Zn0 ad cap) fun C hC=>tgo hC ZrQ Zuv (by simp[ZnW])) (by omega) rfl
 ·have:=List.length_pos_iff.2 h0
  exact start (Zrz xs) fun C hC=>tgo hC ZrQ ZyB (by simp[Zsp];omega)
def k104:Ctr:=⟨104,0,fun _ a=>match a with |[.list (.ints .i64 xs)]=>some (decide (xs.length≤1000000), .row 0 0,some ⟨3,1, .ints .i64 xs⟩) |_=>none⟩
theorem Ztg:k104.OK Try.prog:=fun pa args r fr h=>by
 simp only[k104]at h
 split at h
 ·simp only[Option.some.injEq,Prod.mk.injEq,decide_eq_true_eq]at h
  obtain⟨h0,rfl,rfl⟩:=h
  exact Zf0 _ h0
 ·cases h
def N0:List Ctr:=[k104]++E0
theorem Zcf:ZaO Try.prog N0:=⟨Ztg,ZrQ⟩
end Go.Proofs.Ytklbmkllepkjcaa
/- Paths of functions, printed by the explorer (Gx). No condition. -/
namespace Go.Proofs.Ytklbmkllepkjcaa
set_option maxRecDepth 100000
set_option linter.unusedVariables false
def Zv9(n lo hi:Int):AFrame:={ fn:=91,N:=15,env:=[(0,AV.int .i64 n),(1,AV.int .i64 lo),(2,AV.int .i64 hi)],todo:=[.code a91.code],defs:=[],rnd:=none,ret:=false,res:=[ARes.tmp 6] }
def ZCW(n lo hi:Int):List AFrame:=[(Zv9 n lo hi)]
theorem Ztw(n lo hi:Int):Zax tab 91 [AV.int .i64 n,AV.int .i64 lo,AV.int .i64 hi]=some (Zv9 n lo hi):=rfl
def ZwH(A:Ar)(K:KT)(F:FT)(n lo hi:Int):Prop:=bB (A.le lo n) (F (AV.bool (A.le n hi)) (none)) (F (AV.bool false) (none))
theorem Zz8{A:Ar}{K:KT}{F:FT}{M:MT}{n lo hi:Int} :ZaA A tab N0 91 K F M (.run 10 (.tf (.ty (.ty (.ty (.run 4 (.fn))))) (.fy (.fy (.fy (.run 4 (.fn))))))) (ZCW n lo hi) []=ZwH A K F n lo hi:=by kernel_rfl
def ZxJ(n lo hi:Int):AFrame:={ fn:=30,N:=15,env:=[(0,AV.int .i64 n),(1,AV.int .i64 lo),(2,AV.int .i64 hi)],todo:=[.code a30.code],defs:=[],rnd:=none,ret:=false,res:=[ARes.tmp 6] }
def ZCI(n lo hi:Int):List AFrame:=[(ZxJ n lo hi)]
theorem Zt1(n lo hi:Int):Zax tab 30 [AV.int .i64 n,AV.int .i64 lo,AV.int .i64 hi]=some (ZxJ n lo hi):=rfl
def ZvT(A:Ar)(K:KT)(F:FT)(n lo hi:Int):Prop:=bB (A.le lo n) (F (AV.bool (A.le n hi)) (none)) (F (AV.bool false) (none))
theorem ZzW{A:Ar}{K:KT}{F:FT}{M:MT}{n lo hi:Int} :ZaA A tab N0 30 K F M (.run 10 (.tf (.ty (.ty (.ty (.run 4 (.fn))))) (.fy (.fy (.fy (.run 4 (.fn))))))) (ZCI n lo hi) []=ZvT A K F n lo hi:=by kernel_rfl
def Zwe(b:Bool)(e:Int):AFrame:={ fn:=85,N:=7,env:=[(0,AV.bool b),(1,AV.int .i64 e)],todo:=[.code a85.code],defs:=[],rnd:=none,ret:=false,res:=[ARes.tmp 4] }
def ZCk(b:Bool)(e:Int):List AFrame:=[(Zwe b e)]
theorem ZsV(b:Bool)(e:Int):Zax tab 85 [AV.bool b,AV.int .i64 e]=some (Zwe b e):=rfl
def Zy8(A:Ar)(K:KT)(F:FT)(b:Bool)(e:Int):Prop:=bB (b) (F (AV.int .i64 0) (none)) (F (AV.int .i64 e) (none))
theorem ZAG{A:Ar}{K:KT}{F:FT}{M:MT}{b:Bool}{e:Int} :ZaA A tab N0 85 K F M (.run 9 (.tf (.run 5 (.fn)) (.run 7 (.fn)))) (ZCk b e) []=Zy8 A K F b e:=by kernel_rfl
def ZyJ(xs:List Int):AFrame:={ fn:=72,N:=15,env:=[(0,AV.list (.ints .i64 xs))],todo:=[.code a72.code],defs:=[],rnd:=none,ret:=false,res:=[ARes.tmp 2] }
def ZCs(xs:List Int):List AFrame:=[(ZyJ xs)]
theorem ZtG(xs:List Int):Zax tab 72 [AV.list (.ints .i64 xs)]=some (ZyJ xs):=rfl
def ZfK(xs:List Int)(n0 n1:Int):List AFrame:=[{ fn:=72,N:=15,env:=[(5,AV.list (.ints .i64 xs)),(6,AV.int .i64 n0),(7,AV.int .i64 n1)],todo:=.code (ACode.gh [] ZwO)::ZzB,defs:=[],rnd:=none,ret:=false,res:=[ARes.tmp 2] }]
def ZeM(xs:List Int)(n0 n1:Int):Zab:=[]
abbrev Zg2(xs:List Int)(n0 n1:Int):List AFrame×Zab:=(ZfK xs n0 n1,ZeM xs n0 n1)
def ZwR(A:Ar)(K:KT)(F:FT)(xs:List Int):Prop:=K (Zg2 (xs) (A.int (A.len xs)) (0))
theorem ZAZ{A:Ar}{K:KT}{F:FT}{M:MT}{xs:List Int} :ZaA A tab N0 72 K F M (.run 14 (.hd)) (ZCs xs) []=ZwR A K F xs:=by kernel_rfl
def Zc4(A:Ar)(K:KT)(F:FT)(xs:List Int)(n0 n1:Int):Prop:=bB (A.lt n1 n0) (rB [Zag (Zag (A.le 0 n1) (Nat.blt (A.nat n1) (A.len xs))) true] (bB (A.not (A.eq (A.nth xs (A.nat n1)) 0)) (F (AV.int .i64 (A.nth xs (A.nat n1))) (none)) (rB [A.inR .i64 (A.add n1 1)] (K (Zg2 (xs) (n0) (A.add n1 1)))))) (F (AV.int .i64 0) (none))
theorem ZgZ{A:Ar}{K:KT}{F:FT}{M:MT}{xs:List Int}{n0 n1:Int} :ZaA A tab N0 72 K F M (.run 6 (.tf (.run 14 (.tf (.run 6 (.fn)) (.run 8 (.hd)))) (.run 6 (.fn)))) (ZfK xs n0 n1) (ZeM xs n0 n1)=Zc4 A K F xs n0 n1:=by kernel_rfl
def Zyi(xs:List Int):AFrame:={ fn:=14,N:=6,env:=[(0,AV.list (.ints .i64 xs))],todo:=[.code a14.code],defs:=[],rnd:=none,ret:=false,res:=[ARes.tmp 2] }
def ZC1(xs:List Int):List AFrame:=[(Zyi xs)]
theorem Zs4(xs:List Int):Zax tab 14 [AV.list (.ints .i64 xs)]=some (Zyi xs):=rfl
def ZxG(A:Ar)(K:KT)(F:FT)(xs:List Int):Prop:=rB [Nat.ble (0+A.len xs) 4294967296,List.all [] fun x=>AV.bx x&&Nat.beq (Zam A x) 1] (F (AV.row 0 0) (some { e:=3,sz:=1,r:=.ints .i64 xs }))
theorem ZAh{A:Ar}{K:KT}{F:FT}{M:MT}{xs:List Int} :ZaA A tab N0 14 K F M (.run 12 (.fn)) (ZC1 xs) []=ZxG A K F xs:=by kernel_rfl
def ZwV(xs ys:List Int):AFrame:={ fn:=17,N:=26,env:=[(0,AV.list (.ints .i64 xs)),(1,AV.list (.ints .i64 ys))],todo:=[.code a17.code],defs:=[],rnd:=none,ret:=false,res:=[ARes.tmp 4] }
def ZDr(xs ys:List Int):List AFrame:=[(ZwV xs ys)]
theorem ZuK(xs ys:List Int):Zax tab 17 [AV.list (.ints .i64 xs),AV.list (.ints .i64 ys)]=some (ZwV xs ys):=rfl
def ZgF(xs ys:List Int)(n0:Int):List AFrame:=[{ fn:=17,N:=26,env:=[(0,AV.list (.ints .i64 xs)),(1,AV.list (.ints .i64 ys)),(5,AV.int .i64 n0)],todo:=.code (ACode.gh [] Zy9)::ZA2,defs:=[],rnd:=none,ret:=false,res:=[ARes.tmp 4] }]
def Ze8(xs ys:List Int)(n0:Int):Zab:=[]
abbrev ZhO(xs ys:List Int)(n0:Int):List AFrame×Zab:=(ZgF xs ys n0,Ze8 xs ys n0)
def ZtQ(A:Ar)(K:KT)(F:FT)(xs ys:List Int):Prop:=bB (A.not (A.eq (A.int (A.len xs)) (A.int (A.len ys)))) (F (AV.bool false) (none)) (K (ZhO (xs) (ys) (0)))
theorem ZA3{A:Ar}{K:KT}{F:FT}{M:MT}{xs ys:List Int} :ZaA A tab N0 17 K F M (.run 13 (.tf (.run 5 (.fn)) (.run 9 (.hd)))) (ZDr xs ys) []=ZtQ A K F xs ys:=by kernel_rfl
def Zdj(A:Ar)(K:KT)(F:FT)(xs ys:List Int)(n0:Int):Prop:=bB (A.lt n0 (A.int (A.len xs))) (rB [Zag (Zag (A.le 0 n0) (Nat.blt (A.nat n0) (A.len ys))) true,Zag (Zag (A.le 0 n0) (Nat.blt (A.nat n0) (A.len xs))) true] (bB (A.not (A.eq (A.nth xs (A.nat n0)) (A.nth ys (A.nat n0)))) (F (AV.bool false) (none)) (rB [A.inR .i64 (A.add n0 1)] (K (ZhO (xs) (ys) (A.add n0 1)))))) (F (AV.bool true) (none))
theorem ZhQ{A:Ar}{K:KT}{F:FT}{M:MT}{xs ys:List Int}{n0:Int} :ZaA A tab N0 17 K F M (.run 9 (.tf (.run 6 (.tf (.run 5 (.fn)) (.run 9 (.hd)))) (.run 6 (.fn)))) (ZgF xs ys n0) (Ze8 xs ys n0)=Zdj A K F xs ys n0:=by kernel_rfl
def ZvG(xs:List Int):AFrame:={ fn:=33,N:=22,env:=[(0,AV.list (.ints .i64 xs))],todo:=[.code a33.code],defs:=[],rnd:=none,ret:=false,res:=[ARes.tmp 2] }
def ZDt(xs:List Int):List AFrame:=[(ZvG xs)]
theorem ZuV(xs:List Int):Zax tab 33 [AV.list (.ints .i64 xs)]=some (ZvG xs):=rfl
def ZgI(xs:List Int)(n0:Int):List AFrame:=[{ fn:=33,N:=22,env:=[(0,AV.list (.ints .i64 xs)),(3,AV.int .i64 n0)],todo:=.code (ACode.gh [] Zxf)::Zz4,defs:=[],rnd:=none,ret:=false,res:=[ARes.tmp 2] }]
def ZeF(xs:List Int)(n0:Int):Zab:=[]
abbrev Ze6(xs:List Int)(n0:Int):List AFrame×Zab:=(ZgI xs n0,ZeF xs n0)
def ZvF(A:Ar)(K:KT)(F:FT)(xs:List Int):Prop:=K (Ze6 (xs) (0))
theorem ZAm{A:Ar}{K:KT}{F:FT}{M:MT}{xs:List Int} :ZaA A tab N0 33 K F M (.run 12 (.hd)) (ZDt xs) []=ZvF A K F xs:=by kernel_rfl
def Zcm(A:Ar)(K:KT)(F:FT)(xs:List Int)(n0:Int):Prop:=bB (A.lt n0 (A.int (A.len xs))) (rB [Zag (Zag (A.le 0 n0) (Nat.blt (A.nat n0) (A.len xs))) true] (bB (A.not (A.eq (A.nth xs (A.nat n0)) 0)) (rB [Zag (Zag (A.le 0 n0) (Nat.blt (A.nat n0) (A.len xs))) true] (bB (A.not (A.eq (A.nth xs (A.nat n0)) 1)) (F (AV.bool false) (none)) (rB [A.inR .i64 (A.add n0 1)] (K (Ze6 (xs) (A.add n0 1)))))) (rB [A.inR .i64 (A.add n0 1)] (K (Ze6 (xs) (A.add n0 1)))))) (F (AV.bool true) (none))
theorem Zg8{A:Ar}{K:KT}{F:FT}{M:MT}{xs:List Int}{n0:Int} :ZaA A tab N0 33 K F M (.run 9 (.tf (.run 11 (.tf (.ty (.ty (.ty (.ty (.ty (.run 2 (.tf (.run 5 (.fn)) (.run 9 (.hd))))))))) (.fy (.fy (.fy (.fy (.fy (.run 2 (.fy (.run 9 (.hd))))))))))) (.run 6 (.fn)))) (ZgI xs n0) (ZeF xs n0)=Zcm A K F xs n0:=by kernel_rfl
def ZvR(xs:List Int)(n:Int):AFrame:={ fn:=34,N:=18,env:=[(0,AV.list (.ints .i64 xs)),(1,AV.int .i64 n)],todo:=[.code a34.code],defs:=[],rnd:=none,ret:=false,res:=[ARes.tmp 4] }
def ZCe(xs:List Int)(n:Int):List AFrame:=[(ZvR xs n)]
theorem ZsZ(xs:List Int)(n:Int):Zax tab 34 [AV.list (.ints .i64 xs),AV.int .i64 n]=some (ZvR xs n):=rfl
def Zge(xs:List Int)(n n0:Int):List AFrame:=[{ fn:=34,N:=18,env:=[(0,AV.list (.ints .i64 xs)),(1,AV.int .i64 n),(5,AV.int .i64 n0)],todo:=.code (ACode.gh [] Zyu)::ZzA,defs:=[],rnd:=none,ret:=false,res:=[ARes.tmp 4] }]
def Zfb(xs:List Int)(n n0:Int):Zab:=[]
abbrev Zhk(xs:List Int)(n n0:Int):List AFrame×Zab:=(Zge xs n n0,Zfb xs n n0)
def Zv5(A:Ar)(K:KT)(F:FT)(xs:List Int)(n:Int):Prop:=K (Zhk (xs) (n) (0))
theorem ZAi{A:Ar}{K:KT}{F:FT}{M:MT}{xs:List Int}{n:Int} :ZaA A tab N0 34 K F M (.run 12 (.hd)) (ZCe xs n) []=Zv5 A K F xs n:=by kernel_rfl
def Zdl(A:Ar)(K:KT)(F:FT)(xs:List Int)(n n0:Int):Prop:=bB (A.lt n0 (A.int (A.len xs))) (rB [Zag (Zag (A.le 0 n0) (Nat.blt (A.nat n0) (A.len xs))) true] (bB (A.eq (A.nth xs (A.nat n0)) n) (F (AV.bool true) (none)) (rB [A.inR .i64 (A.add n0 1)] (K (Zhk (xs) (n) (A.add n0 1)))))) (F (AV.bool false) (none))
theorem Zhu{A:Ar}{K:KT}{F:FT}{M:MT}{xs:List Int}{n n0:Int} :ZaA A tab N0 34 K F M (.run 9 (.tf (.run 12 (.tf (.run 5 (.fn)) (.run 9 (.hd)))) (.run 6 (.fn)))) (Zge xs n n0) (Zfb xs n n0)=Zdl A K F xs n n0:=by kernel_rfl
def Zw6(a b:Int):AFrame:={ fn:=89,N:=10,env:=[(0,AV.int .i64 a),(1,AV.int .i64 b)],todo:=[.code a89.code],defs:=[],rnd:=none,ret:=false,res:=[ARes.tmp 4] }
def ZCR(a b:Int):List AFrame:=[(Zw6 a b)]
theorem Zuz(a b:Int):Zax tab 89 [AV.int .i64 a,AV.int .i64 b]=some (Zw6 a b):=rfl
def Zya(A:Ar)(K:KT)(F:FT)(a b:Int):Prop:=bB (A.eq a 0) (F (AV.int .i64 b) (none)) (rB [A.inR .i64 (A.neg b)] (F (AV.int .i64 (A.neg b)) (none)))
theorem ZAt{A:Ar}{K:KT}{F:FT}{M:MT}{a b:Int} :ZaA A tab N0 89 K F M (.run 10 (.tf (.run 6 (.fn)) (.run 8 (.fn)))) (ZCR a b) []=Zya A K F a b:=by kernel_rfl
def Zw8(m g0 g1:Int)(xs:List Int):AFrame:={ fn:=84,N:=7,env:=[(0,AV.agg (Row.gen [.int .i64 m, .int .i64 g0, .int .i64 g1, .list (.ints .i64 xs)]))],todo:=[.code a84.code],defs:=[],rnd:=none,ret:=false,res:=[ARes.tmp 2] }
def ZDm(m g0 g1:Int)(xs:List Int):List AFrame:=[(Zw8 m g0 g1 xs)]
theorem ZtX(m g0 g1:Int)(xs:List Int):Zax tab 84 [AV.agg (Row.gen [.int .i64 m, .int .i64 g0, .int .i64 g1, .list (.ints .i64 xs)])]=some (Zw8 m g0 g1 xs):=rfl
def ZyZ(A:Ar)(K:KT)(F:FT)(m g0 g1:Int)(xs:List Int):Prop:=rB [Zag (A.not (A.eq 2 0)) (A.inR .i64 (A.quo (A.int (A.len xs)) 2))] (F (AV.int .i64 (A.quo (A.int (A.len xs)) 2)) (none))
theorem ZAL{A:Ar}{K:KT}{F:FT}{M:MT}{m g0 g1:Int}{xs:List Int} :ZaA A tab N0 84 K F M (.run 14 (.fn)) (ZDm m g0 g1 xs) []=ZyZ A K F m g0 g1 xs:=by kernel_rfl
def ZxZ(m g0 g1:Int)(xs:List Int):AFrame:={ fn:=86,N:=7,env:=[(0,AV.agg (Row.gen [.int .i64 m, .int .i64 g0, .int .i64 g1, .list (.ints .i64 xs)]))],todo:=[.code a86.code],defs:=[],rnd:=none,ret:=false,res:=[ARes.tmp 2] }
def ZDC(m g0 g1:Int)(xs:List Int):List AFrame:=[(ZxZ m g0 g1 xs)]
theorem Zs0(m g0 g1:Int)(xs:List Int):Zax tab 86 [AV.agg (Row.gen [.int .i64 m, .int .i64 g0, .int .i64 g1, .list (.ints .i64 xs)])]=some (ZxZ m g0 g1 xs):=rfl
def Zye(A:Ar)(K:KT)(F:FT)(m g0 g1:Int)(xs:List Int):Prop:=rB [Zag (Zag (A.le 0 m) (Nat.blt (A.nat m) 64)) (A.inR .i64 (A.shl 1 m))] (F (AV.int .i64 (A.shl 1 m)) (none))
theorem ZzC{A:Ar}{K:KT}{F:FT}{M:MT}{m g0 g1:Int}{xs:List Int} :ZaA A tab N0 86 K F M (.run 14 (.fn)) (ZDC m g0 g1 xs) []=Zye A K F m g0 g1 xs:=by kernel_rfl
end Go.Proofs.Ytklbmkllepkjcaa
/- Contracts as a list. No condition. -/
namespace Go.Proofs.Ytklbmkllepkjcaa
def Zas(n a b:Int):Bool:=decide (a≤n∧n≤b)
def ZaL:List Int→Int
 |[]=>0
 |x::xs=>if x=0 then ZaL xs else x
def ZaE(b:Bool)(e:Int):Int:=if b=true then 0 else e
theorem Ziy{xs:List Int}{k:Nat}(h:k<xs.length):xs.drop k=xs.getD k 0::xs.drop (k+1):=by
 rw[List.drop_eq_getElem_cons h,List.getD_eq_getElem?_getD,List.getElem?_eq_getElem h];rfl
theorem Zma{α:Type}{xs:List α}{n:Nat}{d:α}(h:n<xs.length):xs.getD n d∈xs:=by
 rw[List.getD_eq_getElem?_getD,List.getElem?_eq_getElem h];exact List.getElem_mem h
def ZgO:List Int→List Int→Int
 |x::xs,y::ys=>(if x=y then 0 else 1)+ZgO xs ys
 |_,_=>0
def ZaD(xs:List Int):Bool:=xs.all fun x=>decide (x=0∨x=1)
section
variable {C:Ctx}(hC:C.P=Try.prog)
include hC
theorem Zi0(xs ys:List Int)(hl:xs.length≤1000000∧xs.length=ys.length):∀m k:Nat,k+m=xs.length→Ev C (ZgF xs ys k) (Ze8 xs ys k) (Zb1 17 (.bool (decide (xs.drop k=ys.drop k))) none)
 |0,k,hk=>tgo hC Zcf ZhQ (by
  rw[List.drop_of_length_le (by omega),List.drop_of_length_le (by omega)]
  simp[Zdj,show ¬(k:Int)<xs.length by omega])
 |m+1,k,hk=>by
  have ih:=Zi0 xs ys hl m (k+1) (by omega)
  rw[Ziy (show k<xs.length by omega),Ziy (show k<ys.length by omega)]
  refine tgo hC Zcf ZhQ ?_
  by_cases h:xs.getD k 0=ys.getD k 0
  ·simp[-List.getD_eq_getElem?_getD,Zdj,show(k:Int)<xs.length by omega,show k<xs.length by omega,show k<ys.length by omega,h]
   exact⟨by omega,by simpa using ih⟩
  ·simp[-List.getD_eq_getElem?_getD,Zdj,show(k:Int)<xs.length by omega,show k<xs.length by omega,show k<ys.length by omega,h]
theorem Zfr(xs:List Int)(hl:xs.length≤1000000):∀m k:Nat,k+m=xs.length→Ev C (ZfK xs xs.length k) (ZeM xs xs.length k) (Zb1 72 (.int .i64 (ZaL (xs.drop k))) none)
 |0,k,hk=>tgo hC Zcf ZgZ (by
  rw[List.drop_of_length_le (by omega)]
  simp[Zc4,show ¬(k:Int)<xs.length by omega,ZaL])
 |m+1,k,hk=>by
  have ih:=Zfr xs hl m (k+1) (by omega)
  have hlt:(k:Int)<xs.length:=by omega
  have hlt2:k<xs.length:=by omega
  rw[Ziy hlt2,ZaL]
  refine tgo hC Zcf ZgZ ?_
  by_cases h:xs.getD k 0=0
  ·simp[-List.getD_eq_getElem?_getD,Zc4,hlt,hlt2,h]
   exact⟨by omega,by simpa using ih⟩
  ·simp[-List.getD_eq_getElem?_getD,Zc4,hlt,hlt2,h]
theorem Zls(xs:List Int)(n:Int)(hl:xs.length≤1000000):∀m k:Nat,k+m=xs.length→Ev C (Zge xs n k) (Zfb xs n k) (Zb1 34 (.bool (decide (n∈xs.drop k))) none)
 |0,k,hk=>tgo hC Zcf Zhu (by
  rw[List.drop_of_length_le (by omega)]
  simp[Zdl,show ¬(k:Int)<xs.length by omega])
 |m+1,k,hk=>by
  have ih:=Zls xs n hl m (k+1) (by omega)
  have hlt:(k:Int)<xs.length:=by omega
  have hlt2:k<xs.length:=by omega
  rw[Ziy hlt2]
  refine tgo hC Zcf Zhu ?_
  by_cases h:xs.getD k 0=n
  ·simp[-List.getD_eq_getElem?_getD,Zdl,hlt,hlt2,h]
  ·have h2:¬n=xs.getD k 0:=fun e=>h e.symm
   simp[-List.getD_eq_getElem?_getD,Zdl,hlt,hlt2,h,h2]
   exact⟨by omega,by simpa using ih⟩
theorem Zjt(xs:List Int)(hl:xs.length≤1000000):∀m k:Nat,k+m=xs.length→Ev C (ZgI xs k) (ZeF xs k) (Zb1 33 (.bool (ZaD (xs.drop k))) none)
 |0,k,hk=>tgo hC Zcf Zg8 (by
  rw[List.drop_of_length_le (by omega)]
  simp[Zcm,show ¬(k:Int)<xs.length by omega,ZaD])
 |m+1,k,hk=>by
  have ih:=Zjt xs hl m (k+1) (by omega)
  have hlt:(k:Int)<xs.length:=by omega
  have hlt2:k<xs.length:=by omega
  have e:ZaD (xs.drop k)=(decide (xs.getD k 0=0∨xs.getD k 0=1)&&ZaD (xs.drop (k+1))):=by rw[Ziy hlt2];rfl
  rw[e]
  refine tgo hC Zcf Zg8 ?_
  by_cases h:xs.getD k 0=0
  ·simp[-List.getD_eq_getElem?_getD,Zcm,hlt,hlt2,h]
   exact⟨by omega,by simpa using ih⟩
  ·by_cases h1:xs.getD k 0=1
   ·simp[-List.getD_eq_getElem?_getD,Zcm,hlt,hlt2,h1]
    exact⟨by omega,by simpa using ih⟩
   ·simp[-List.getD_eq_getElem?_getD,Zcm,hlt,hlt2,h,h1]
end
theorem Zkc(a b c:Int):Zah Try.prog 91 [.int .i64 a, .int .i64 b, .int .i64 c] (.bool (Zas a b c)) none:=
 start (Ztw a b c) fun C hC=>tgo hC Zcf Zz8 (by by_cases h:b≤a<;>simp[ZwH,h,Zas])
theorem Zkz(a b c:Int):Zah Try.prog 30 [.int .i64 a, .int .i64 b, .int .i64 c] (.bool (Zas a b c)) none:=
 start (Zt1 a b c) fun C hC=>tgo hC Zcf ZzW (by by_cases h:b≤a<;>simp[ZvT,h,Zas])
theorem Zkr(b:Bool)(e:Int):Zah Try.prog 85 [.bool b, .int .i64 e] (.int .i64 (ZaE b e)) none:=
 start (ZsV b e) fun C hC=>tgo hC Zcf ZAG (by cases b<;>simp[Zy8,ZaE])
theorem Zm3(xs:List Int)(hl:xs.length≤1000000):Zah Try.prog 72 [.list (.ints .i64 xs)] (.int .i64 (ZaL xs)) none:=
 start (ZtG xs) fun C hC=>tgo hC Zcf ZAZ (by
  have:=Zfr hC xs hl xs.length 0 (by omega)
  simp[ZwR]
  simpa using this)
theorem Zjw(xs:List Int)(hl:xs.length≤1000000):Zah Try.prog 14 [.list (.ints .i64 xs)] (.row 0 0) (some ⟨3,1, .ints .i64 xs⟩):=
 start (Zs4 xs) fun C hC=>tgo hC Zcf ZAh (by simp[ZxG];omega)
theorem Znv(xs ys:List Int)(hl:xs.length≤1000000):Zah Try.prog 17 [.list (.ints .i64 xs), .list (.ints .i64 ys)] (.bool (decide (xs=ys))) none:=
 start (ZuK xs ys) fun C hC=>tgo hC Zcf ZA3 (by
  by_cases h:xs.length=ys.length
  ·simp[ZtQ,h]
   have:=Zi0 hC xs ys ⟨hl,h⟩ xs.length 0 (by omega)
   simpa using this
  ·have:xs≠ys:=fun e=>h (by rw[e])
   simp[ZtQ,this,show ¬((xs.length:Int)=ys.length) by omega])
theorem Zpe(xs:List Int)(hl:xs.length≤1000000):Zah Try.prog 33 [.list (.ints .i64 xs)] (.bool (ZaD xs)) none:=
 start (ZuV xs) fun C hC=>tgo hC Zcf ZAm (by
  have:=Zjt hC xs hl xs.length 0 (by omega)
  simp[ZvF]
  simpa using this)
theorem Zrl(xs:List Int)(n:Int)(hl:xs.length≤1000000):Zah Try.prog 34 [.list (.ints .i64 xs), .int .i64 n] (.bool (decide (n∈xs))) none:=
 start (ZsZ xs n) fun C hC=>tgo hC Zcf ZAi (by
  have:=Zls hC xs n hl xs.length 0 (by omega)
  simp[Zv5]
  simpa using this)
def coI(a b:Int):Int:=if a=0 then b else -b
theorem Zu1(a b:Int)(h: -1000000≤b∧b≤1000000):Zah Try.prog 89 [.int .i64 a, .int .i64 b] (.int .i64 (coI a b)) none:=
 start (Zuz a b) fun C hC=>tgo hC Zcf ZAt (by
  by_cases h:a=0<;>simp[Zya,h,coI];omega)
def k91:Ctr:=⟨91,0,fun _ a=>match a with |[.int .i64 a, .int .i64 b, .int .i64 c]=>some (true, .bool (Zas a b c),none) |_=>none⟩
theorem Zwv:k91.OK Try.prog:=fun pa args r fr h=>by
 simp only[k91]at h
 split at h
 ·cases h
  exact Zkc _ _ _
 ·cases h
def k30:Ctr:=⟨30,0,fun _ a=>match a with |[.int .i64 a, .int .i64 b, .int .i64 c]=>some (true, .bool (Zas a b c),none) |_=>none⟩
theorem ZxE:k30.OK Try.prog:=fun pa args r fr h=>by
 simp only[k30]at h
 split at h
 ·cases h
  exact Zkz _ _ _
 ·cases h
def k85:Ctr:=⟨85,0,fun _ a=>match a with |[.bool b, .int .i64 e]=>some (true, .int .i64 (ZaE b e),none) |_=>none⟩
theorem ZvN:k85.OK Try.prog:=fun pa args r fr h=>by
 simp only[k85]at h
 split at h
 ·cases h
  exact Zkr _ _
 ·cases h
def k72:Ctr:=⟨72,0,fun _ a=>match a with |[.list (.ints .i64 xs)]=>some (decide (xs.length≤1000000), .int .i64 (ZaL xs),none) |_=>none⟩
theorem Zzb:k72.OK Try.prog:=fun pa args r fr h=>by
 simp only[k72]at h
 split at h
 ·simp only[Option.some.injEq,Prod.mk.injEq,decide_eq_true_eq]at h
  obtain⟨h0,rfl,rfl⟩:=h
  exact Zm3 _ h0
 ·cases h
def k14:Ctr:=⟨14,0,fun _ a=>match a with |[.list (.ints .i64 xs)]=>some (decide (xs.length≤1000000), .row 0 0,some ⟨3,1, .ints .i64 xs⟩) |_=>none⟩
theorem ZyG:k14.OK Try.prog:=fun pa args r fr h=>by
 simp only[k14]at h
 split at h
 ·simp only[Option.some.injEq,Prod.mk.injEq,decide_eq_true_eq]at h
  obtain⟨h0,rfl,rfl⟩:=h
  exact Zjw _ h0
 ·cases h
def k17:Ctr:=⟨17,0,fun _ a=>match a with |[.list (.ints .i64 xs), .list (.ints .i64 ys)]=>some (decide (xs.length≤1000000), .bool (decide (xs=ys)),none) |_=>none⟩
theorem ZwY:k17.OK Try.prog:=fun pa args r fr h=>by
 simp only[k17]at h
 split at h
 ·simp only[Option.some.injEq,Prod.mk.injEq,decide_eq_true_eq]at h
  obtain⟨h0,rfl,rfl⟩:=h
  exact Znv _ _ h0
 ·cases h
def k33:Ctr:=⟨33,0,fun _ a=>match a with |[.list (.ints .i64 xs)]=>some (decide (xs.length≤1000000), .bool (ZaD xs),none) |_=>none⟩
theorem ZyH:k33.OK Try.prog:=fun pa args r fr h=>by
 simp only[k33]at h
 split at h
 ·simp only[Option.some.injEq,Prod.mk.injEq,decide_eq_true_eq]at h
  obtain⟨h0,rfl,rfl⟩:=h
  exact Zpe _ h0
 ·cases h
def k34:Ctr:=⟨34,0,fun _ a=>match a with |[.list (.ints .i64 xs), .int .i64 n]=>some (decide (xs.length≤1000000), .bool (decide (n∈xs)),none) |_=>none⟩
theorem ZwW:k34.OK Try.prog:=fun pa args r fr h=>by
 simp only[k34]at h
 split at h
 ·simp only[Option.some.injEq,Prod.mk.injEq,decide_eq_true_eq]at h
  obtain⟨h0,rfl,rfl⟩:=h
  exact Zrl _ _ h0
 ·cases h
def k89:Ctr:=⟨89,0,fun _ a=>match a with |[.int .i64 a, .int .i64 b]=>some (decide (-1000000≤b∧b≤1000000), .int .i64 (coI a b),none) |_=>none⟩
theorem ZyX:k89.OK Try.prog:=fun pa args r fr h=>by
 simp only[k89]at h
 split at h
 ·simp only[Option.some.injEq,Prod.mk.injEq,decide_eq_true_eq]at h
  obtain⟨h0,rfl,rfl⟩:=h
  exact Zu1 _ _ h0
 ·cases h
def N1:List Ctr:=[k91,k30,k85,k72,k14,k17,k33,k34,k89]++N0
theorem Znw:ZaO Try.prog N1:=⟨Zwv,⟨ZxE,⟨ZvN,⟨Zzb,⟨ZyG,⟨ZwY,⟨ZyH,⟨ZwW,⟨ZyX,Zcf⟩⟩⟩⟩⟩⟩⟩⟩⟩
end Go.Proofs.Ytklbmkllepkjcaa
/- Paths of functions, printed by the explorer (Gx). No condition. -/
namespace Go.Proofs.Ytklbmkllepkjcaa
set_option maxRecDepth 100000
set_option linter.unusedVariables false
def Zsb(n:Int):AFrame:={ fn:=113,N:=8,env:=[(0,AV.int .u64 n)],todo:=[.code a113.code],defs:=[],rnd:=none,ret:=false,res:=[ARes.tmp 2] }
def Zzw(n:Int):List AFrame:=[(Zsb n)]
theorem ZpT(n:Int):Zax tab 113 [AV.int .u64 n]=some (Zsb n):=rfl
def Zr3(A:Ar)(K:KT)(F:FT)(n:Int):Prop:=rB [A.inR .i64 (A.add (A.add (A.add (A.bits Go.BinOp.and .u64 (A.add (A.shr (A.add (A.bits Go.BinOp.and .u64 (A.shr (A.add (A.bits Go.BinOp.and .u64 (A.shr n 1) 6148914691236517205) (A.bits Go.BinOp.and .u64 n 6148914691236517205)) 2) 3689348814741910323) (A.bits Go.BinOp.and .u64 (A.add (A.bits Go.BinOp.and .u64 (A.shr n 1) 6148914691236517205) (A.bits Go.BinOp.and .u64 n 6148914691236517205)) 3689348814741910323)) 4) (A.add (A.bits Go.BinOp.and .u64 (A.shr (A.add (A.bits Go.BinOp.and .u64 (A.shr n 1) 6148914691236517205) (A.bits Go.BinOp.and .u64 n 6148914691236517205)) 2) 3689348814741910323) (A.bits Go.BinOp.and .u64 (A.add (A.bits Go.BinOp.and .u64 (A.shr n 1) 6148914691236517205) (A.bits Go.BinOp.and .u64 n 6148914691236517205)) 3689348814741910323))) 1085102592571150095) (A.shr (A.bits Go.BinOp.and .u64 (A.add (A.shr (A.add (A.bits Go.BinOp.and .u64 (A.shr (A.add (A.bits Go.BinOp.and .u64 (A.shr n 1) 6148914691236517205) (A.bits Go.BinOp.and .u64 n 6148914691236517205)) 2) 3689348814741910323) (A.bits Go.BinOp.and .u64 (A.add (A.bits Go.BinOp.and .u64 (A.shr n 1) 6148914691236517205) (A.bits Go.BinOp.and .u64 n 6148914691236517205)) 3689348814741910323)) 4) (A.add (A.bits Go.BinOp.and .u64 (A.shr (A.add (A.bits Go.BinOp.and .u64 (A.shr n 1) 6148914691236517205) (A.bits Go.BinOp.and .u64 n 6148914691236517205)) 2) 3689348814741910323) (A.bits Go.BinOp.and .u64 (A.add (A.bits Go.BinOp.and .u64 (A.shr n 1) 6148914691236517205) (A.bits Go.BinOp.and .u64 n 6148914691236517205)) 3689348814741910323))) 1085102592571150095) 8)) (A.shr (A.add (A.bits Go.BinOp.and .u64 (A.add (A.shr (A.add (A.bits Go.BinOp.and .u64 (A.shr (A.add (A.bits Go.BinOp.and .u64 (A.shr n 1) 6148914691236517205) (A.bits Go.BinOp.and .u64 n 6148914691236517205)) 2) 3689348814741910323) (A.bits Go.BinOp.and .u64 (A.add (A.bits Go.BinOp.and .u64 (A.shr n 1) 6148914691236517205) (A.bits Go.BinOp.and .u64 n 6148914691236517205)) 3689348814741910323)) 4) (A.add (A.bits Go.BinOp.and .u64 (A.shr (A.add (A.bits Go.BinOp.and .u64 (A.shr n 1) 6148914691236517205) (A.bits Go.BinOp.and .u64 n 6148914691236517205)) 2) 3689348814741910323) (A.bits Go.BinOp.and .u64 (A.add (A.bits Go.BinOp.and .u64 (A.shr n 1) 6148914691236517205) (A.bits Go.BinOp.and .u64 n 6148914691236517205)) 3689348814741910323))) 1085102592571150095) (A.shr (A.bits Go.BinOp.and .u64 (A.add (A.shr (A.add (A.bits Go.BinOp.and .u64 (A.shr (A.add (A.bits Go.BinOp.and .u64 (A.shr n 1) 6148914691236517205) (A.bits Go.BinOp.and .u64 n 6148914691236517205)) 2) 3689348814741910323) (A.bits Go.BinOp.and .u64 (A.add (A.bits Go.BinOp.and .u64 (A.shr n 1) 6148914691236517205) (A.bits Go.BinOp.and .u64 n 6148914691236517205)) 3689348814741910323)) 4) (A.add (A.bits Go.BinOp.and .u64 (A.shr (A.add (A.bits Go.BinOp.and .u64 (A.shr n 1) 6148914691236517205) (A.bits Go.BinOp.and .u64 n 6148914691236517205)) 2) 3689348814741910323) (A.bits Go.BinOp.and .u64 (A.add (A.bits Go.BinOp.and .u64 (A.shr n 1) 6148914691236517205) (A.bits Go.BinOp.and .u64 n 6148914691236517205)) 3689348814741910323))) 1085102592571150095) 8)) 16)) (A.shr (A.add (A.add (A.bits Go.BinOp.and .u64 (A.add (A.shr (A.add (A.bits Go.BinOp.and .u64 (A.shr (A.add (A.bits Go.BinOp.and .u64 (A.shr n 1) 6148914691236517205) (A.bits Go.BinOp.and .u64 n 6148914691236517205)) 2) 3689348814741910323) (A.bits Go.BinOp.and .u64 (A.add (A.bits Go.BinOp.and .u64 (A.shr n 1) 6148914691236517205) (A.bits Go.BinOp.and .u64 n 6148914691236517205)) 3689348814741910323)) 4) (A.add (A.bits Go.BinOp.and .u64 (A.shr (A.add (A.bits Go.BinOp.and .u64 (A.shr n 1) 6148914691236517205) (A.bits Go.BinOp.and .u64 n 6148914691236517205)) 2) 3689348814741910323) (A.bits Go.BinOp.and .u64 (A.add (A.bits Go.BinOp.and .u64 (A.shr n 1) 6148914691236517205) (A.bits Go.BinOp.and .u64 n 6148914691236517205)) 3689348814741910323))) 1085102592571150095) (A.shr (A.bits Go.BinOp.and .u64 (A.add (A.shr (A.add (A.bits Go.BinOp.and .u64 (A.shr (A.add (A.bits Go.BinOp.and .u64 (A.shr n 1) 6148914691236517205) (A.bits Go.BinOp.and .u64 n 6148914691236517205)) 2) 3689348814741910323) (A.bits Go.BinOp.and .u64 (A.add (A.bits Go.BinOp.and .u64 (A.shr n 1) 6148914691236517205) (A.bits Go.BinOp.and .u64 n 6148914691236517205)) 3689348814741910323)) 4) (A.add (A.bits Go.BinOp.and .u64 (A.shr (A.add (A.bits Go.BinOp.and .u64 (A.shr n 1) 6148914691236517205) (A.bits Go.BinOp.and .u64 n 6148914691236517205)) 2) 3689348814741910323) (A.bits Go.BinOp.and .u64 (A.add (A.bits Go.BinOp.and .u64 (A.shr n 1) 6148914691236517205) (A.bits Go.BinOp.and .u64 n 6148914691236517205)) 3689348814741910323))) 1085102592571150095) 8)) (A.shr (A.add (A.bits Go.BinOp.and .u64 (A.add (A.shr (A.add (A.bits Go.BinOp.and .u64 (A.shr (A.add (A.bits Go.BinOp.and .u64 (A.shr n 1) 6148914691236517205) (A.bits Go.BinOp.and .u64 n 6148914691236517205)) 2) 3689348814741910323) (A.bits Go.BinOp.and .u64 (A.add (A.bits Go.BinOp.and .u64 (A.shr n 1) 6148914691236517205) (A.bits Go.BinOp.and .u64 n 6148914691236517205)) 3689348814741910323)) 4) (A.add (A.bits Go.BinOp.and .u64 (A.shr (A.add (A.bits Go.BinOp.and .u64 (A.shr n 1) 6148914691236517205) (A.bits Go.BinOp.and .u64 n 6148914691236517205)) 2) 3689348814741910323) (A.bits Go.BinOp.and .u64 (A.add (A.bits Go.BinOp.and .u64 (A.shr n 1) 6148914691236517205) (A.bits Go.BinOp.and .u64 n 6148914691236517205)) 3689348814741910323))) 1085102592571150095) (A.shr (A.bits Go.BinOp.and .u64 (A.add (A.shr (A.add (A.bits Go.BinOp.and .u64 (A.shr (A.add (A.bits Go.BinOp.and .u64 (A.shr n 1) 6148914691236517205) (A.bits Go.BinOp.and .u64 n 6148914691236517205)) 2) 3689348814741910323) (A.bits Go.BinOp.and .u64 (A.add (A.bits Go.BinOp.and .u64 (A.shr n 1) 6148914691236517205) (A.bits Go.BinOp.and .u64 n 6148914691236517205)) 3689348814741910323)) 4) (A.add (A.bits Go.BinOp.and .u64 (A.shr (A.add (A.bits Go.BinOp.and .u64 (A.shr n 1) 6148914691236517205) (A.bits Go.BinOp.and .u64 n 6148914691236517205)) 2) 3689348814741910323) (A.bits Go.BinOp.and .u64 (A.add (A.bits Go.BinOp.and .u64 (A.shr n 1) 6148914691236517205) (A.bits Go.BinOp.and .u64 n 6148914691236517205)) 3689348814741910323))) 1085102592571150095) 8)) 16)) 32)),A.inR .u64 (A.add (A.add (A.add (A.bits Go.BinOp.and .u64 (A.add (A.shr (A.add (A.bits Go.BinOp.and .u64 (A.shr (A.add (A.bits Go.BinOp.and .u64 (A.shr n 1) 6148914691236517205) (A.bits Go.BinOp.and .u64 n 6148914691236517205)) 2) 3689348814741910323) (A.bits Go.BinOp.and .u64 (A.add (A.bits Go.BinOp.and .u64 (A.shr n 1) 6148914691236517205) (A.bits Go.BinOp.and .u64 n 6148914691236517205)) 3689348814741910323)) 4) (A.add (A.bits Go.BinOp.and .u64 (A.shr (A.add (A.bits Go.BinOp.and .u64 (A.shr n 1) 6148914691236517205) (A.bits Go.BinOp.and .u64 n 6148914691236517205)) 2) 3689348814741910323) (A.bits Go.BinOp.and .u64 (A.add (A.bits Go.BinOp.and .u64 (A.shr n 1) 6148914691236517205) (A.bits Go.BinOp.and .u64 n 6148914691236517205)) 3689348814741910323))) 1085102592571150095) (A.shr (A.bits Go.BinOp.and .u64 (A.add (A.shr (A.add (A.bits Go.BinOp.and .u64 (A.shr (A.add (A.bits Go.BinOp.and .u64 (A.shr n 1) 6148914691236517205) (A.bits Go.BinOp.and .u64 n 6148914691236517205)) 2) 3689348814741910323) (A.bits Go.BinOp.and .u64 (A.add (A.bits Go.BinOp.and .u64 (A.shr n 1) 6148914691236517205) (A.bits Go.BinOp.and .u64 n 6148914691236517205)) 3689348814741910323)) 4) (A.add (A.bits Go.BinOp.and .u64 (A.shr (A.add (A.bits Go.BinOp.and .u64 (A.shr n 1) 6148914691236517205) (A.bits Go.BinOp.and .u64 n 6148914691236517205)) 2) 3689348814741910323) (A.bits Go.BinOp.and .u64 (A.add (A.bits Go.BinOp.and .u64 (A.shr n 1) 6148914691236517205) (A.bits Go.BinOp.and .u64 n 6148914691236517205)) 3689348814741910323))) 1085102592571150095) 8)) (A.shr (A.add (A.bits Go.BinOp.and .u64 (A.add (A.shr (A.add (A.bits Go.BinOp.and .u64 (A.shr (A.add (A.bits Go.BinOp.and .u64 (A.shr n 1) 6148914691236517205) (A.bits Go.BinOp.and .u64 n 6148914691236517205)) 2) 3689348814741910323) (A.bits Go.BinOp.and .u64 (A.add (A.bits Go.BinOp.and .u64 (A.shr n 1) 6148914691236517205) (A.bits Go.BinOp.and .u64 n 6148914691236517205)) 3689348814741910323)) 4) (A.add (A.bits Go.BinOp.and .u64 (A.shr (A.add (A.bits Go.BinOp.and .u64 (A.shr n 1) 6148914691236517205) (A.bits Go.BinOp.and .u64 n 6148914691236517205)) 2) 3689348814741910323) (A.bits Go.BinOp.and .u64 (A.add (A.bits Go.BinOp.and .u64 (A.shr n 1) 6148914691236517205) (A.bits Go.BinOp.and .u64 n 6148914691236517205)) 3689348814741910323))) 1085102592571150095) (A.shr (A.bits Go.BinOp.and .u64 (A.add (A.shr (A.add (A.bits Go.BinOp.and .u64 (A.shr (A.add (A.bits Go.BinOp.and .u64 (A.shr n 1) 6148914691236517205) (A.bits Go.BinOp.and .u64 n 6148914691236517205)) 2) 3689348814741910323) (A.bits Go.BinOp.and .u64 (A.add (A.bits Go.BinOp.and .u64 (A.shr n 1) 6148914691236517205) (A.bits Go.BinOp.and .u64 n 6148914691236517205)) 3689348814741910323)) 4) (A.add (A.bits Go.BinOp.and .u64 (A.shr (A.add (A.bits Go.BinOp.and .u64 (A.shr n 1) 6148914691236517205) (A.bits Go.BinOp.and .u64 n 6148914691236517205)) 2) 3689348814741910323) (A.bits Go.BinOp.and .u64 (A.add (A.bits Go.BinOp.and .u64 (A.shr n 1) 6148914691236517205) (A.bits Go.BinOp.and .u64 n 6148914691236517205)) 3689348814741910323))) 1085102592571150095) 8)) 16)) (A.shr (A.add (A.add (A.bits Go.BinOp.and .u64 (A.add (A.shr (A.add (A.bits Go.BinOp.and .u64 (A.shr (A.add (A.bits Go.BinOp.and .u64 (A.shr n 1) 6148914691236517205) (A.bits Go.BinOp.and .u64 n 6148914691236517205)) 2) 3689348814741910323) (A.bits Go.BinOp.and .u64 (A.add (A.bits Go.BinOp.and .u64 (A.shr n 1) 6148914691236517205) (A.bits Go.BinOp.and .u64 n 6148914691236517205)) 3689348814741910323)) 4) (A.add (A.bits Go.BinOp.and .u64 (A.shr (A.add (A.bits Go.BinOp.and .u64 (A.shr n 1) 6148914691236517205) (A.bits Go.BinOp.and .u64 n 6148914691236517205)) 2) 3689348814741910323) (A.bits Go.BinOp.and .u64 (A.add (A.bits Go.BinOp.and .u64 (A.shr n 1) 6148914691236517205) (A.bits Go.BinOp.and .u64 n 6148914691236517205)) 3689348814741910323))) 1085102592571150095) (A.shr (A.bits Go.BinOp.and .u64 (A.add (A.shr (A.add (A.bits Go.BinOp.and .u64 (A.shr (A.add (A.bits Go.BinOp.and .u64 (A.shr n 1) 6148914691236517205) (A.bits Go.BinOp.and .u64 n 6148914691236517205)) 2) 3689348814741910323) (A.bits Go.BinOp.and .u64 (A.add (A.bits Go.BinOp.and .u64 (A.shr n 1) 6148914691236517205) (A.bits Go.BinOp.and .u64 n 6148914691236517205)) 3689348814741910323)) 4) (A.add (A.bits Go.BinOp.and .u64 (A.shr (A.add (A.bits Go.BinOp.and .u64 (A.shr n 1) 6148914691236517205) (A.bits Go.BinOp.and .u64 n 6148914691236517205)) 2) 3689348814741910323) (A.bits Go.BinOp.and .u64 (A.add (A.bits Go.BinOp.and .u64 (A.shr n 1) 6148914691236517205) (A.bits Go.BinOp.and .u64 n 6148914691236517205)) 3689348814741910323))) 1085102592571150095) 8)) (A.shr (A.add (A.bits Go.BinOp.and .u64 (A.add (A.shr (A.add (A.bits Go.BinOp.and .u64 (A.shr (A.add (A.bits Go.BinOp.and .u64 (A.shr n 1) 6148914691236517205) (A.bits Go.BinOp.and .u64 n 6148914691236517205)) 2) 3689348814741910323) (A.bits Go.BinOp.and .u64 (A.add (A.bits Go.BinOp.and .u64 (A.shr n 1) 6148914691236517205) (A.bits Go.BinOp.and .u64 n 6148914691236517205)) 3689348814741910323)) 4) (A.add (A.bits Go.BinOp.and .u64 (A.shr (A.add (A.bits Go.BinOp.and .u64 (A.shr n 1) 6148914691236517205) (A.bits Go.BinOp.and .u64 n 6148914691236517205)) 2) 3689348814741910323) (A.bits Go.BinOp.and .u64 (A.add (A.bits Go.BinOp.and .u64 (A.shr n 1) 6148914691236517205) (A.bits Go.BinOp.and .u64 n 6148914691236517205)) 3689348814741910323))) 1085102592571150095) (A.shr (A.bits Go.BinOp.and .u64 (A.add (A.shr (A.add (A.bits Go.BinOp.and .u64 (A.shr (A.add (A.bits Go.BinOp.and .u64 (A.shr n 1) 6148914691236517205) (A.bits Go.BinOp.and .u64 n 6148914691236517205)) 2) 3689348814741910323) (A.bits Go.BinOp.and .u64 (A.add (A.bits Go.BinOp.and .u64 (A.shr n 1) 6148914691236517205) (A.bits Go.BinOp.and .u64 n 6148914691236517205)) 3689348814741910323)) 4) (A.add (A.bits Go.BinOp.and .u64 (A.shr (A.add (A.bits Go.BinOp.and .u64 (A.shr n 1) 6148914691236517205) (A.bits Go.BinOp.and .u64 n 6148914691236517205)) 2) 3689348814741910323) (A.bits Go.BinOp.and .u64 (A.add (A.bits Go.BinOp.and .u64 (A.shr n 1) 6148914691236517205) (A.bits Go.BinOp.and .u64 n 6148914691236517205)) 3689348814741910323))) 1085102592571150095) 8)) 16)) 32)),Zag (A.le 0 32) (Nat.blt (A.nat 32) 64),A.inR .u64 (A.add (A.add (A.bits Go.BinOp.and .u64 (A.add (A.shr (A.add (A.bits Go.BinOp.and .u64 (A.shr (A.add (A.bits Go.BinOp.and .u64 (A.shr n 1) 6148914691236517205) (A.bits Go.BinOp.and .u64 n 6148914691236517205)) 2) 3689348814741910323) (A.bits Go.BinOp.and .u64 (A.add (A.bits Go.BinOp.and .u64 (A.shr n 1) 6148914691236517205) (A.bits Go.BinOp.and .u64 n 6148914691236517205)) 3689348814741910323)) 4) (A.add (A.bits Go.BinOp.and .u64 (A.shr (A.add (A.bits Go.BinOp.and .u64 (A.shr n 1) 6148914691236517205) (A.bits Go.BinOp.and .u64 n 6148914691236517205)) 2) 3689348814741910323) (A.bits Go.BinOp.and .u64 (A.add (A.bits Go.BinOp.and .u64 (A.shr n 1) 6148914691236517205) (A.bits Go.BinOp.and .u64 n 6148914691236517205)) 3689348814741910323))) 1085102592571150095) (A.shr (A.bits Go.BinOp.and .u64 (A.add (A.shr (A.add (A.bits Go.BinOp.and .u64 (A.shr (A.add (A.bits Go.BinOp.and .u64 (A.shr n 1) 6148914691236517205) (A.bits Go.BinOp.and .u64 n 6148914691236517205)) 2) 3689348814741910323) (A.bits Go.BinOp.and .u64 (A.add (A.bits Go.BinOp.and .u64 (A.shr n 1) 6148914691236517205) (A.bits Go.BinOp.and .u64 n 6148914691236517205)) 3689348814741910323)) 4) (A.add (A.bits Go.BinOp.and .u64 (A.shr (A.add (A.bits Go.BinOp.and .u64 (A.shr n 1) 6148914691236517205) (A.bits Go.BinOp.and .u64 n 6148914691236517205)) 2) 3689348814741910323) (A.bits Go.BinOp.and .u64 (A.add (A.bits Go.BinOp.and .u64 (A.shr n 1) 6148914691236517205) (A.bits Go.BinOp.and .u64 n 6148914691236517205)) 3689348814741910323))) 1085102592571150095) 8)) (A.shr (A.add (A.bits Go.BinOp.and .u64 (A.add (A.shr (A.add (A.bits Go.BinOp.and .u64 (A.shr (A.add (A.bits Go.BinOp.and .u64 (A.shr n 1) 6148914691236517205) (A.bits Go.BinOp.and .u64 n 6148914691236517205)) 2) 3689348814741910323) (A.bits Go.BinOp.and .u64 (A.add (A.bits Go.BinOp.and .u64 (A.shr n 1) 6148914691236517205) (A.bits Go.BinOp.and .u64 n 6148914691236517205)) 3689348814741910323)) 4) (A.add (A.bits Go.BinOp.and .u64 (A.shr (A.add (A.bits Go.BinOp.and .u64 (A.shr n 1) 6148914691236517205) (A.bits Go.BinOp.and .u64 n 6148914691236517205)) 2) 3689348814741910323) (A.bits Go.BinOp.and .u64 (A.add (A.bits Go.BinOp.and .u64 (A.shr n 1) 6148914691236517205) (A.bits Go.BinOp.and .u64 n 6148914691236517205)) 3689348814741910323))) 1085102592571150095) (A.shr (A.bits Go.BinOp.and .u64 (A.add (A.shr (A.add (A.bits Go.BinOp.and .u64 (A.shr (A.add (A.bits Go.BinOp.and .u64 (A.shr n 1) 6148914691236517205) (A.bits Go.BinOp.and .u64 n 6148914691236517205)) 2) 3689348814741910323) (A.bits Go.BinOp.and .u64 (A.add (A.bits Go.BinOp.and .u64 (A.shr n 1) 6148914691236517205) (A.bits Go.BinOp.and .u64 n 6148914691236517205)) 3689348814741910323)) 4) (A.add (A.bits Go.BinOp.and .u64 (A.shr (A.add (A.bits Go.BinOp.and .u64 (A.shr n 1) 6148914691236517205) (A.bits Go.BinOp.and .u64 n 6148914691236517205)) 2) 3689348814741910323) (A.bits Go.BinOp.and .u64 (A.add (A.bits Go.BinOp.and .u64 (A.shr n 1) 6148914691236517205) (A.bits Go.BinOp.and .u64 n 6148914691236517205)) 3689348814741910323))) 1085102592571150095) 8)) 16)),Zag (A.le 0 16) (Nat.blt (A.nat 16) 64),A.inR .u64 (A.add (A.bits Go.BinOp.and .u64 (A.add (A.shr (A.add (A.bits Go.BinOp.and .u64 (A.shr (A.add (A.bits Go.BinOp.and .u64 (A.shr n 1) 6148914691236517205) (A.bits Go.BinOp.and .u64 n 6148914691236517205)) 2) 3689348814741910323) (A.bits Go.BinOp.and .u64 (A.add (A.bits Go.BinOp.and .u64 (A.shr n 1) 6148914691236517205) (A.bits Go.BinOp.and .u64 n 6148914691236517205)) 3689348814741910323)) 4) (A.add (A.bits Go.BinOp.and .u64 (A.shr (A.add (A.bits Go.BinOp.and .u64 (A.shr n 1) 6148914691236517205) (A.bits Go.BinOp.and .u64 n 6148914691236517205)) 2) 3689348814741910323) (A.bits Go.BinOp.and .u64 (A.add (A.bits Go.BinOp.and .u64 (A.shr n 1) 6148914691236517205) (A.bits Go.BinOp.and .u64 n 6148914691236517205)) 3689348814741910323))) 1085102592571150095) (A.shr (A.bits Go.BinOp.and .u64 (A.add (A.shr (A.add (A.bits Go.BinOp.and .u64 (A.shr (A.add (A.bits Go.BinOp.and .u64 (A.shr n 1) 6148914691236517205) (A.bits Go.BinOp.and .u64 n 6148914691236517205)) 2) 3689348814741910323) (A.bits Go.BinOp.and .u64 (A.add (A.bits Go.BinOp.and .u64 (A.shr n 1) 6148914691236517205) (A.bits Go.BinOp.and .u64 n 6148914691236517205)) 3689348814741910323)) 4) (A.add (A.bits Go.BinOp.and .u64 (A.shr (A.add (A.bits Go.BinOp.and .u64 (A.shr n 1) 6148914691236517205) (A.bits Go.BinOp.and .u64 n 6148914691236517205)) 2) 3689348814741910323) (A.bits Go.BinOp.and .u64 (A.add (A.bits Go.BinOp.and .u64 (A.shr n 1) 6148914691236517205) (A.bits Go.BinOp.and .u64 n 6148914691236517205)) 3689348814741910323))) 1085102592571150095) 8)),Zag (A.le 0 8) (Nat.blt (A.nat 8) 64),A.inR .u64 (A.add (A.shr (A.add (A.bits Go.BinOp.and .u64 (A.shr (A.add (A.bits Go.BinOp.and .u64 (A.shr n 1) 6148914691236517205) (A.bits Go.BinOp.and .u64 n 6148914691236517205)) 2) 3689348814741910323) (A.bits Go.BinOp.and .u64 (A.add (A.bits Go.BinOp.and .u64 (A.shr n 1) 6148914691236517205) (A.bits Go.BinOp.and .u64 n 6148914691236517205)) 3689348814741910323)) 4) (A.add (A.bits Go.BinOp.and .u64 (A.shr (A.add (A.bits Go.BinOp.and .u64 (A.shr n 1) 6148914691236517205) (A.bits Go.BinOp.and .u64 n 6148914691236517205)) 2) 3689348814741910323) (A.bits Go.BinOp.and .u64 (A.add (A.bits Go.BinOp.and .u64 (A.shr n 1) 6148914691236517205) (A.bits Go.BinOp.and .u64 n 6148914691236517205)) 3689348814741910323))),Zag (A.le 0 4) (Nat.blt (A.nat 4) 64),A.inR .u64 (A.add (A.bits Go.BinOp.and .u64 (A.shr (A.add (A.bits Go.BinOp.and .u64 (A.shr n 1) 6148914691236517205) (A.bits Go.BinOp.and .u64 n 6148914691236517205)) 2) 3689348814741910323) (A.bits Go.BinOp.and .u64 (A.add (A.bits Go.BinOp.and .u64 (A.shr n 1) 6148914691236517205) (A.bits Go.BinOp.and .u64 n 6148914691236517205)) 3689348814741910323)),Zag (A.le 0 2) (Nat.blt (A.nat 2) 64),A.inR .u64 (A.add (A.bits Go.BinOp.and .u64 (A.shr n 1) 6148914691236517205) (A.bits Go.BinOp.and .u64 n 6148914691236517205)),Zag (A.le 0 1) (Nat.blt (A.nat 1) 64)] (F (AV.int .i64 (A.bits Go.BinOp.and .i64 (A.add (A.add (A.add (A.bits Go.BinOp.and .u64 (A.add (A.shr (A.add (A.bits Go.BinOp.and .u64 (A.shr (A.add (A.bits Go.BinOp.and .u64 (A.shr n 1) 6148914691236517205) (A.bits Go.BinOp.and .u64 n 6148914691236517205)) 2) 3689348814741910323) (A.bits Go.BinOp.and .u64 (A.add (A.bits Go.BinOp.and .u64 (A.shr n 1) 6148914691236517205) (A.bits Go.BinOp.and .u64 n 6148914691236517205)) 3689348814741910323)) 4) (A.add (A.bits Go.BinOp.and .u64 (A.shr (A.add (A.bits Go.BinOp.and .u64 (A.shr n 1) 6148914691236517205) (A.bits Go.BinOp.and .u64 n 6148914691236517205)) 2) 3689348814741910323) (A.bits Go.BinOp.and .u64 (A.add (A.bits Go.BinOp.and .u64 (A.shr n 1) 6148914691236517205) (A.bits Go.BinOp.and .u64 n 6148914691236517205)) 3689348814741910323))) 1085102592571150095) (A.shr (A.bits Go.BinOp.and .u64 (A.add (A.shr (A.add (A.bits Go.BinOp.and .u64 (A.shr (A.add (A.bits Go.BinOp.and .u64 (A.shr n 1) 6148914691236517205) (A.bits Go.BinOp.and .u64 n 6148914691236517205)) 2) 3689348814741910323) (A.bits Go.BinOp.and .u64 (A.add (A.bits Go.BinOp.and .u64 (A.shr n 1) 6148914691236517205) (A.bits Go.BinOp.and .u64 n 6148914691236517205)) 3689348814741910323)) 4) (A.add (A.bits Go.BinOp.and .u64 (A.shr (A.add (A.bits Go.BinOp.and .u64 (A.shr n 1) 6148914691236517205) (A.bits Go.BinOp.and .u64 n 6148914691236517205)) 2) 3689348814741910323) (A.bits Go.BinOp.and .u64 (A.add (A.bits Go.BinOp.and .u64 (A.shr n 1) 6148914691236517205) (A.bits Go.BinOp.and .u64 n 6148914691236517205)) 3689348814741910323))) 1085102592571150095) 8)) (A.shr (A.add (A.bits Go.BinOp.and .u64 (A.add (A.shr (A.add (A.bits Go.BinOp.and .u64 (A.shr (A.add (A.bits Go.BinOp.and .u64 (A.shr n 1) 6148914691236517205) (A.bits Go.BinOp.and .u64 n 6148914691236517205)) 2) 3689348814741910323) (A.bits Go.BinOp.and .u64 (A.add (A.bits Go.BinOp.and .u64 (A.shr n 1) 6148914691236517205) (A.bits Go.BinOp.and .u64 n 6148914691236517205)) 3689348814741910323)) 4) (A.add (A.bits Go.BinOp.and .u64 (A.shr (A.add (A.bits Go.BinOp.and .u64 (A.shr n 1) 6148914691236517205) (A.bits Go.BinOp.and .u64 n 6148914691236517205)) 2) 3689348814741910323) (A.bits Go.BinOp.and .u64 (A.add (A.bits Go.BinOp.and .u64 (A.shr n 1) 6148914691236517205) (A.bits Go.BinOp.and .u64 n 6148914691236517205)) 3689348814741910323))) 1085102592571150095) (A.shr (A.bits Go.BinOp.and .u64 (A.add (A.shr (A.add (A.bits Go.BinOp.and .u64 (A.shr (A.add (A.bits Go.BinOp.and .u64 (A.shr n 1) 6148914691236517205) (A.bits Go.BinOp.and .u64 n 6148914691236517205)) 2) 3689348814741910323) (A.bits Go.BinOp.and .u64 (A.add (A.bits Go.BinOp.and .u64 (A.shr n 1) 6148914691236517205) (A.bits Go.BinOp.and .u64 n 6148914691236517205)) 3689348814741910323)) 4) (A.add (A.bits Go.BinOp.and .u64 (A.shr (A.add (A.bits Go.BinOp.and .u64 (A.shr n 1) 6148914691236517205) (A.bits Go.BinOp.and .u64 n 6148914691236517205)) 2) 3689348814741910323) (A.bits Go.BinOp.and .u64 (A.add (A.bits Go.BinOp.and .u64 (A.shr n 1) 6148914691236517205) (A.bits Go.BinOp.and .u64 n 6148914691236517205)) 3689348814741910323))) 1085102592571150095) 8)) 16)) (A.shr (A.add (A.add (A.bits Go.BinOp.and .u64 (A.add (A.shr (A.add (A.bits Go.BinOp.and .u64 (A.shr (A.add (A.bits Go.BinOp.and .u64 (A.shr n 1) 6148914691236517205) (A.bits Go.BinOp.and .u64 n 6148914691236517205)) 2) 3689348814741910323) (A.bits Go.BinOp.and .u64 (A.add (A.bits Go.BinOp.and .u64 (A.shr n 1) 6148914691236517205) (A.bits Go.BinOp.and .u64 n 6148914691236517205)) 3689348814741910323)) 4) (A.add (A.bits Go.BinOp.and .u64 (A.shr (A.add (A.bits Go.BinOp.and .u64 (A.shr n 1) 6148914691236517205) (A.bits Go.BinOp.and .u64 n 6148914691236517205)) 2) 3689348814741910323) (A.bits Go.BinOp.and .u64 (A.add (A.bits Go.BinOp.and .u64 (A.shr n 1) 6148914691236517205) (A.bits Go.BinOp.and .u64 n 6148914691236517205)) 3689348814741910323))) 1085102592571150095) (A.shr (A.bits Go.BinOp.and .u64 (A.add (A.shr (A.add (A.bits Go.BinOp.and .u64 (A.shr (A.add (A.bits Go.BinOp.and .u64 (A.shr n 1) 6148914691236517205) (A.bits Go.BinOp.and .u64 n 6148914691236517205)) 2) 3689348814741910323) (A.bits Go.BinOp.and .u64 (A.add (A.bits Go.BinOp.and .u64 (A.shr n 1) 6148914691236517205) (A.bits Go.BinOp.and .u64 n 6148914691236517205)) 3689348814741910323)) 4) (A.add (A.bits Go.BinOp.and .u64 (A.shr (A.add (A.bits Go.BinOp.and .u64 (A.shr n 1) 6148914691236517205) (A.bits Go.BinOp.and .u64 n 6148914691236517205)) 2) 3689348814741910323) (A.bits Go.BinOp.and .u64 (A.add (A.bits Go.BinOp.and .u64 (A.shr n 1) 6148914691236517205) (A.bits Go.BinOp.and .u64 n 6148914691236517205)) 3689348814741910323))) 1085102592571150095) 8)) (A.shr (A.add (A.bits Go.BinOp.and .u64 (A.add (A.shr (A.add (A.bits Go.BinOp.and .u64 (A.shr (A.add (A.bits Go.BinOp.and .u64 (A.shr n 1) 6148914691236517205) (A.bits Go.BinOp.and .u64 n 6148914691236517205)) 2) 3689348814741910323) (A.bits Go.BinOp.and .u64 (A.add (A.bits Go.BinOp.and .u64 (A.shr n 1) 6148914691236517205) (A.bits Go.BinOp.and .u64 n 6148914691236517205)) 3689348814741910323)) 4) (A.add (A.bits Go.BinOp.and .u64 (A.shr (A.add (A.bits Go.BinOp.and .u64 (A.shr n 1) 6148914691236517205) (A.bits Go.BinOp.and .u64 n 6148914691236517205)) 2) 3689348814741910323) (A.bits Go.BinOp.and .u64 (A.add (A.bits Go.BinOp.and .u64 (A.shr n 1) 6148914691236517205) (A.bits Go.BinOp.and .u64 n 6148914691236517205)) 3689348814741910323))) 1085102592571150095) (A.shr (A.bits Go.BinOp.and .u64 (A.add (A.shr (A.add (A.bits Go.BinOp.and .u64 (A.shr (A.add (A.bits Go.BinOp.and .u64 (A.shr n 1) 6148914691236517205) (A.bits Go.BinOp.and .u64 n 6148914691236517205)) 2) 3689348814741910323) (A.bits Go.BinOp.and .u64 (A.add (A.bits Go.BinOp.and .u64 (A.shr n 1) 6148914691236517205) (A.bits Go.BinOp.and .u64 n 6148914691236517205)) 3689348814741910323)) 4) (A.add (A.bits Go.BinOp.and .u64 (A.shr (A.add (A.bits Go.BinOp.and .u64 (A.shr n 1) 6148914691236517205) (A.bits Go.BinOp.and .u64 n 6148914691236517205)) 2) 3689348814741910323) (A.bits Go.BinOp.and .u64 (A.add (A.bits Go.BinOp.and .u64 (A.shr n 1) 6148914691236517205) (A.bits Go.BinOp.and .u64 n 6148914691236517205)) 3689348814741910323))) 1085102592571150095) 8)) 16)) 32)) 127)) (none))
theorem Zy5{A:Ar}{K:KT}{F:FT}{M:MT}{n:Int} :ZaA A tab N1 113 K F M (.run 5 (.fy (.run 76 (.fn)))) (Zzw n) []=Zr3 A K F n:=by kernel_rfl
def ZyV(xs:List Int)(lo hi:Int):AFrame:={ fn:=70,N:=14,env:=[(0,AV.list (.ints .i64 xs)),(1,AV.int .i64 lo),(2,AV.int .i64 hi)],todo:=[.code a70.code],defs:=[],rnd:=none,ret:=false,res:=[ARes.tmp 6] }
def ZCx(xs:List Int)(lo hi:Int):List AFrame:=[(ZyV xs lo hi)]
theorem Zvu(xs:List Int)(lo hi:Int):Zax tab 70 [AV.list (.ints .i64 xs),AV.int .i64 lo,AV.int .i64 hi]=some (ZyV xs lo hi):=rfl
def Zex(xs:List Int)(lo hi n0 n1:Int):List AFrame:=[{ fn:=123,N:=19,env:=[(0,AV.list (.ints .i64 xs)),(1,AV.fn 111 [AV.ptr 70005 0 0 0,AV.ptr 70006 0 0 0]),(7,AV.int .i64 n0),(8,AV.int .i64 n1)],todo:=.code (ACode.gh [] ZsE)::ZyW,defs:=[],rnd:=none,ret:=false,res:=[ARes.tmp 4] },{ fn:=110,N:=9,env:=[(0,AV.list (.ints .i64 xs)),(1,AV.fn 111 [AV.ptr 70005 0 0 0,AV.ptr 70006 0 0 0]),(4,AV.bool false),(5,AV.list (.ints .i64 xs)),(6,AV.fn 111 [AV.ptr 70005 0 0 0,AV.ptr 70006 0 0 0])],todo:=[AItem.inReg [oN 7 (OpK.ncall true 0 123 [Opd.t 5,Opd.t 6]),oN 8 (OpK.bin Go.BinOp.geq (Opd.t 7) (cI 0)),mV 4 8], .code ACode.ret],defs:=[],rnd:=none,ret:=false,res:=[ARes.tmp 4] },{ fn:=70,N:=14,env:=[(0,AV.list (.ints .i64 xs)),(1,AV.int .i64 lo),(2,AV.int .i64 hi),(4,AV.ptr 70005 0 0 0),(5,AV.ptr 70006 0 0 0),(6,AV.int .i64 0),(8,AV.list (.ints .i64 xs)),(9,AV.fn 111 [AV.ptr 70005 0 0 0,AV.ptr 70006 0 0 0])],todo:=[AItem.inReg [oN 10 (OpK.ncall true 0 110 [Opd.t 8,Opd.t 9]),mV 7 10], .code (ACode.seq (ACode.reg none [mV 11 7,oN 12 (OpK.not (Opd.t 11)),oN 13 (OpK.ncall true 0 85 [Opd.t 12,cI 2]),mV 6 13]) ACode.ret)],defs:=[],rnd:=none,ret:=false,res:=[ARes.tmp 6] }]
def ZdI(xs:List Int)(lo hi n0 n1:Int):Zab:=[(70005,{ base:=0,blks:=[Blk.row 3 1 (Row.gen [.int .i64 lo])] }),(70006,{ base:=0,blks:=[Blk.row 3 1 (Row.gen [.int .i64 hi])] })]
abbrev Zgc(xs:List Int)(lo hi n0 n1:Int):List AFrame×Zab:=(Zex xs lo hi n0 n1,ZdI xs lo hi n0 n1)
def ZxY(A:Ar)(K:KT)(F:FT)(xs:List Int)(lo hi:Int):Prop:=K (Zgc (xs) (lo) (hi) (A.int (A.len xs)) (0))
theorem ZAa{A:Ar}{K:KT}{F:FT}{M:MT}{xs:List Int}{lo hi:Int} :ZaA A tab N1 70 K F M (.run 34 (.hd)) (ZCx xs lo hi) []=ZxY A K F xs lo hi:=by kernel_rfl
def Zcv(A:Ar)(K:KT)(F:FT)(xs:List Int)(lo hi n0 n1:Int):Prop:=bB (A.lt n1 n0) (rB [Zag (Zag (A.le 0 n1) (Nat.blt (A.nat n1) (A.len xs))) true] (bB (A.not (Zas (A.nth xs (A.nat n1)) lo hi)) (F (AV.int .i64 (ZaE (A.not (A.le 0 n1)) 2)) (none)) (rB [A.inR .i64 (A.add n1 1)] (K (Zgc (xs) (lo) (hi) (n0) (A.add n1 1)))))) (F (AV.int .i64 (ZaE (A.not (A.le 0 (-1))) 2)) (none))
theorem ZfV{A:Ar}{K:KT}{F:FT}{M:MT}{xs:List Int}{lo hi n0 n1:Int} :ZaA A tab N1 70 K F M (.run 6 (.tf (.run 32 (.tf (.run 22 (.fn)) (.run 8 (.hd)))) (.run 22 (.fn)))) (Zex xs lo hi n0 n1) (ZdI xs lo hi n0 n1)=Zcv A K F xs lo hi n0 n1:=by kernel_rfl
end Go.Proofs.Ytklbmkllepkjcaa
/- Contracts as a list. No condition. -/
namespace Go.Proofs.Ytklbmkllepkjcaa
theorem Rel.sameA{w:World}{ok:Nat→Prop}{h:Zab}{L:Lay}{r r':Row}{v:Value}(he:r.elems=r'.elems)(hr:Rel w ok h L (.agg r) v):Rel w ok h L (.agg r') v:=by
 cases hr with
 |agg _ xs hx vs hl h1 hrr=>exact .agg r' xs (hx.trans he) vs hl h1 hrr
theorem Zep{f:FuncId}{xs ys:List AV}{r r':Row}{x:AV}{fr:Option Fresh}(h:Zah Try.prog f (xs++ .agg r::ys) x fr)(he:r'.elems=r.elems):Zah Try.prog f (xs++ .agg r'::ys) x fr:=by
 intro w okA L vs hargs hok hG
 refine h w okA L vs ⟨by have:=hargs.1;simpa using this,fun j u v hu hv=>?_⟩ hok hG
 rcases Nat.lt_trichotomy j xs.length with hj |hj |hj
 ·rw[List.getElem?_append_left hj]at hu
  exact hargs.2 j u v (by rw[List.getElem?_append_left hj];exact hu) hv
 ·subst hj
  rw[List.getElem?_append_right (Nat.le_refl _)]at hu
  simp only[Nat.sub_self,List.getElem?_cons_zero,Option.some.injEq]at hu
  subst hu
  exact Rel.sameA he (hargs.2 _ _ v (by rw[List.getElem?_append_right (Nat.le_refl _)];simp) hv)
 ·rw[List.getElem?_append_right (by omega),show j-xs.length=(j-xs.length-1)+1 by omega,List.getElem?_cons_succ]at hu
  exact hargs.2 j u v (by rw[List.getElem?_append_right (by omega),show j-xs.length=(j-xs.length-1)+1 by omega,List.getElem?_cons_succ];exact hu) hv
def ZvA(x:Nat):Nat:=x%2+x/2%2+x/4%2+x/8%2
def ZA9(r k:Int):Int:=((ZvA (r.toNat &&& k.toNat)%2:Nat):Int)
theorem Zl4(r k:Nat)(hr:r≤15)(hk:k≤15):std.bits .and .i64 (r:Int) (k:Int)=((r &&& k:Nat):Int):=by
 have h1:∀m:Nat,m≤15→(BitVec.ofInt 64 (m:Int)).toNat=m:=fun m hm=>by
  rw[BitVec.ofInt_natCast,BitVec.toNat_ofNat];exact Nat.mod_eq_of_lt (by omega)
 show IntKind.i64.wrap ((BitVec.ofInt 64 (r:Int) &&& BitVec.ofInt 64 (k:Int)).toNat:Int)=_
 rw[BitVec.toNat_and,h1 r hr,h1 k hk]
 have:= @Nat.and_le_left r k
 rw[IntKind.wrap_i64]
 omega
theorem ZnX:∀ {l:List Bool},l.all (fun b=>b)=true→AllT l
 |[],_=>trivial
 |b::l,h=>by
  simp only[List.all_cons,Bool.and_eq_true]at h
  exact⟨h.1,ZnX h.2⟩
theorem ZmP(x:Int)(h:0≤x∧x≤15):Zah Try.prog 113 [.int .u64 x] (.int .i64 ((ZvA x.toNat:Nat):Int)) none:=by
 have:x=0∨x=1∨x=2∨x=3∨x=4∨x=5∨x=6∨x=7∨x=8∨x=9∨x=10∨x=11∨x=12∨x=13∨x=14∨x=15:=by omega
 rcases this with rfl |rfl |rfl |rfl |rfl |rfl |rfl |rfl |rfl |rfl |rfl |rfl |rfl |rfl |rfl |rfl<;>
  exact start (ZpT _) fun C hC=>tgo hC Znw Zy5 (by
   simp only[Zr3,ZzY]
   exact⟨ZnX (by kernel_rfl),by kernel_rfl,trivial⟩)
def Zdr(xs:List Int)(lo hi:Int):Int:=if xs.all (fun x=>Zas x lo hi)=true then 0 else 2
theorem Zot{xs:List Int}{k:Nat}(lo hi:Int)(h:k<xs.length):Zdr (xs.drop k) lo hi=if Zas (xs.getD k 0) lo hi=true then Zdr (xs.drop (k+1)) lo hi else 2:=by
 rw[Ziy h]
 unfold Zdr
 cases hw:Zas (xs.getD k 0) lo hi<;>simp[-List.getD_eq_getElem?_getD,List.all_cons,hw]
section
variable {C:Ctx}(hC:C.P=Try.prog)
include hC
theorem Zk9(xs:List Int)(lo hi:Int)(hl:xs.length≤1000000):∀m k:Nat,k+m=xs.length→Ev C (Zex xs lo hi xs.length k) (ZdI xs lo hi xs.length k) (Zb1 70 (.int .i64 (Zdr (xs.drop k) lo hi)) none)
 |0,k,hk=>tgo hC Znw ZfV (by
  rw[List.drop_of_length_le (by omega)]
  simp[Zcv,show ¬(k:Int)<xs.length by omega,Zdr,ZaE])
 |m+1,k,hk=>by
  have ih:=Zk9 xs lo hi hl m (k+1) (by omega)
  have hlt:(k:Int)<xs.length:=by omega
  have hlt2:k<xs.length:=by omega
  rw[Zot lo hi hlt2]
  refine tgo hC Znw ZfV ?_
  cases hw:Zas (xs.getD k 0) lo hi with
  |true=>
   simp[-List.getD_eq_getElem?_getD,Zcv,hlt,hlt2,hw]
   exact⟨by omega,by simpa using ih⟩
  |false=>simp[-List.getD_eq_getElem?_getD,Zcv,hlt,hlt2,hw,ZaE]
end
theorem ZrM(xs:List Int)(lo hi:Int)(hl:xs.length≤1000000):Zah Try.prog 70 [.list (.ints .i64 xs), .int .i64 lo, .int .i64 hi] (.int .i64 (Zdr xs lo hi)) none:=
 start (Zvu xs lo hi) fun C hC=>tgo hC Znw ZAa (by
  have:=Zk9 hC xs lo hi hl xs.length 0 (by omega)
  simp[ZxY]
  simpa using this)
def stN(m:Int):Int:=2^m.toNat
def ZkA(m:Int):Bool:=decide (1≤m∧m≤3)
theorem Zha{m:Int}(h:1≤m∧m≤3):stN m=2∨stN m=4∨stN m=8:=by
 have:m=1∨m=2∨m=3:=by omega
 rcases this with rfl |rfl |rfl<;>simp[stN]
def k113:Ctr:=⟨113,0,fun _ a=>match a with |[.int .u64 x]=>some (decide (0≤x∧x≤15), .int .i64 ((ZvA x.toNat:Nat):Int),none) |_=>none⟩
theorem ZuU:k113.OK Try.prog:=fun pa args r fr h=>by
 simp only[k113]at h
 split at h
 ·simp only[Option.some.injEq,Prod.mk.injEq,decide_eq_true_eq]at h
  obtain⟨h0,rfl,rfl⟩:=h
  exact ZmP _ h0
 ·cases h
def k70:Ctr:=⟨70,0,fun _ a=>match a with |[.list (.ints .i64 xs), .int .i64 lo, .int .i64 hi]=>some (decide (xs.length≤1000000), .int .i64 (Zdr xs lo hi),none) |_=>none⟩
theorem Zxa:k70.OK Try.prog:=fun pa args r fr h=>by
 simp only[k70]at h
 split at h
 ·simp only[Option.some.injEq,Prod.mk.injEq,decide_eq_true_eq]at h
  obtain⟨h0,rfl,rfl⟩:=h
  exact ZrM _ _ _ h0
 ·cases h
def N2:List Ctr:=[k113,k70]++N1
theorem ZgP:ZaO Try.prog N2:=⟨ZuU,⟨Zxa,Znw⟩⟩
end Go.Proofs.Ytklbmkllepkjcaa
