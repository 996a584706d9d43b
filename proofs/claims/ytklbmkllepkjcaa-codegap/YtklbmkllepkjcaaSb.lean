/- Arguments' readings, of whatever type of plain cells and slices. No condition. -/
import Derived.Test.YtklbmkllepkjcaaW1
import Derived.Deep.Slices
import Derived.KernelRfl
namespace Go.Proofs.Ytklbmkllepkjcaa
open Go.ChangeShapes Go.WideShapes Go.ChangeAt Go.RowKit Go.Deep
def ZpH(P:Program)(f:TypeId→Option (List Sh)):Nat→List Field→Option (List Sh)
 |_,[]=>some []
 |off,fd::fds=>match fd.offset==off,f fd.type with
  |true,some l=>(match P.cellsOf fd.type==l.length,ZpH P f (off+l.length) fds with
   |true,some r=>some (l++r)
   |_,_=>none)
  |_,_=>none
def ZuV(ag:Bool)(l:List Sh):Option Sh:=match ag,l with
 |_,[]=>none
 |true,s::ss=>some (.agg (s::ss))
 |false,[s]=>some s
 |false,_=>none
def Zys:Sh→Sh
 | .int k=>.ints k
 |s=>.big s
def ZEl(P:Program)(f:TypeId→Option (List Sh)):TypeDesc→Option (List Sh)
 | .int k=>some [.int k]
 | .bool=>some [.bool]
 | .string=>some [.str]
 | .struct fs=>ZpH P f 0 fs.toList
 | .array n e=>match f e with
   |some l=>(match P.cellsOf e==l.length with |true=>some (List.replicate n l).flatten |false=>none)
   |none=>none
 | .slice e=>match f e,P.underlying e with
   |some l,some de=>(match P.cellsOf e==l.length,ZuV (ZaI de) l with |true,some s=>some [Zys s] |_,_=>none)
   |_,_=>none
 |_=>none
def ZrP(P:Program):Nat→TypeId→Option (List Sh)
 |0,_=>none
 |d+1,t=>match P.underlying t with
  |some td=>(match ZEl P (ZrP P d) td with
   |some l=>(match P.cellsOf t==l.length with |true=>some l |false=>none)
   |none=>none)
  |none=>none
def wfE(ss:List Sh)(x:AV):Prop:=∀(j:Nat) (k:IntKind),ss[j]? =some (.int k)→(Lit.int k (x.cellAt j).toI).wf=true
def wfV:AV→Prop
 | .int k n=>(Lit.int k n).wf=true
 | .list (.ints k l)=>∀x∈l,(Lit.int k x).wf=true
 | .list (.big (.agg ss) l)=>∀x∈l,wfE ss x
 |_=>True
def Sh.leaf:Sh→Bool
 | .agg _=>false
 |_=>true
def Cf(s:Sh)(u:AV):Prop:=(∃a,u=s.view1 a)∧wfV u∧s.leaf=true
def Cfs(ss:List Sh)(us:List AV):Prop:=us.length=ss.length∧∀(j:Nat) (s:Sh) (u:AV),ss[j]? =some s→us[j]? =some u→Cf s u
def Rd(W:World)(L:Lay)(ss:List Sh)(cs:List Value):Prop:=∃us:List AV,RelL W (Zjk W) [] L us cs∧(∀c∈cs,c.oneCell'=true)∧Cfs ss us
section
variable {H:Type}{enc:TypeId×Value→H}{P:Program}{W:World}{L:Lay}
theorem Cfs.app{s1 s2:List Sh}{u1 u2:List AV}(h1:Cfs s1 u1)(h2:Cfs s2 u2):Cfs (s1++s2) (u1++u2):=by
 refine⟨by simp[h1.1,h2.1],fun j s u hs hu=>?_⟩
 by_cases hj:j<s1.length
 ·rw[List.getElem?_append_left hj]at hs
  rw[List.getElem?_append_left (by rw[h1.1];exact hj)]at hu
  exact h1.2 j s u hs hu
 ·rw[List.getElem?_append_right (by omega)]at hs
  rw[List.getElem?_append_right (by rw[h1.1];omega),h1.1]at hu
  exact h2.2 _ s u hs hu
theorem Rd.app{s1 s2:List Sh}{c1 c2:List Value}(h1:Rd W L s1 c1)(h2:Rd W L s2 c2):Rd W L (s1++s2) (c1++c2):=by
 obtain⟨u1,r1,o1,f1⟩:=h1
 obtain⟨u2,r2,o2,f2⟩:=h2
 exact⟨u1++u2,r1.append r2,fun c hc=>(List.mem_append.1 hc).elim (o1 c) (o2 c),f1.app f2⟩
theorem Rd.nil:Rd W L [] []:=⟨[],RelL.nil,by simp,rfl,fun j s u hs=>by simp at hs⟩
theorem Rd.len{ss:List Sh}{cs:List Value}(h:Rd W L ss cs):cs.length=ss.length:=by
 obtain⟨us,r,_,f⟩:=h
 rw[←r.1,f.1]
theorem Rd.one{s:Sh}{v:Value}{u:AV}(hr:Rel W (Zjk W) [] L u v)(h1:v.oneCell'=true)(hc:Cf s u):Rd W L [s] [v]:=
 ⟨[u],RelL.cons hr RelL.nil,by simpa using h1,rfl,fun j s' u' hs hu=>by
   cases j with
   |zero=>simp at hs hu;subst hs;subst hu;exact hc
   |succ j=>simp at hs⟩
theorem ZA0{f:TypeId→Option (List Sh)}{n:Nat}(IH:∀t ss,f t=some ss→∀fuel cs x,DataW.trod enc P W 0 (fun _=>true) true fuel t cs=some x→Rd W L ss cs){cs:List Value} :
 ∀(fs:List Field) (off:Nat) (ss:List Sh),ZpH P f off fs=some ss→(∀(i:Nat) (fd:Field),fs[i]? =some fd→∃x,DataW.trod enc P W 0 (fun _=>true) true n fd.type ((cs.drop fd.offset).take (P.cellsOf fd.type))=some x)→
 (cs.drop off).length=ss.length→Rd W L ss (cs.drop off)
 |[],off,ss,h,_,hl=>by
  simp only[ZpH,Option.some.injEq]at h
  subst h
  rw[List.eq_nil_of_length_eq_zero hl]
  exact Rd.nil
 |fd::fds,off,ss,h,hx,hl=>by
  simp only[ZpH]at h
  split at h
  ·rename_i l ho hfl
   split at h
   ·rename_i r hcl hr
    simp only[Option.some.injEq]at h
    subst h
    have ho:fd.offset=off:=by simpa using ho
    have hcl:P.cellsOf fd.type=l.length:=by simpa using hcl
    obtain⟨x,hxx⟩:=hx 0 fd rfl
    rw[ho,hcl]at hxx
    have h1:=IH _ _ hfl _ _ _ hxx
    have h2:=ZA0 IH fds (off+l.length) r hr (fun i fd' h'=>hx (i+1) fd' (by simpa using h')) (by simp at hl ⊢;omega)
    have:=h1.app h2
    rw[show cs.drop (off+l.length)=(cs.drop off).drop l.length by rw[List.drop_drop],List.take_append_drop]at this
    exact this
   ·cases h
  ·cases h
theorem ZtH{l:List Sh}{n c:Nat}{e:TypeId}{cs:List Value}(hc:c=l.length)(IH:∀i,i<n→Rd W L l ((cs.drop (i*c)).take c)):
 ∀(k s:Nat),s+k=n→cs.length=n*c→Rd W L (List.replicate k l).flatten (cs.drop (s*c))
 |0,s,hs,hl=>by
  rw[List.drop_of_length_le (by rw[hl,←hs];simp)]
  exact Rd.nil
 |k+1,s,hs,hl=>by
  have h1:=IH s (by omega)
  have h2:=ZtH (e:=e) hc IH k (s+1) (by omega) hl
  have:=h1.app h2
  rw[Nat.add_mul,Nat.one_mul,show cs.drop (s*c+c)=(cs.drop (s*c)).drop c by rw[List.drop_drop],List.take_append_drop]at this
  rw[List.replicate_succ,List.flatten_cons]
  exact this
theorem ZfV:∀ {l:List AV},(∀u∈l,u.pure=true)→AV.pureL l=true
 |[],_=>rfl
 |u::l,h=>by simp only[AV.pureL,Bool.and_eq_true];exact⟨h u (by simp),ZfV fun v hv=>h v (by simp[hv])⟩
theorem Zjo{α:Type}{sz:Nat}(g:Nat→List α):∀(n:Nat),(∀i,i<n→(g i).length=sz)→∀j,((List.range n).flatMap g)[j]? =if j<n*sz then(g (j/sz))[j%sz]? else none
 |0,_,j=>by simp
 |n+1,hg,j=>by
  have ih:=Zjo g n (fun i hi=>hg i (by omega))
  have hlen:((List.range n).flatMap g).length=n*sz:=by
   apply Nat.le_antisymm
   ·have h1:=ih (n*sz)
    rw[if_neg (by omega)]at h1
    simpa using h1
   ·rcases Nat.lt_or_ge ((List.range n).flatMap g).length (n*sz)with h |h
    ·have h1:=ih ((List.range n).flatMap g).length
     rw[if_pos h,List.getElem?_eq_none (Nat.le_refl _)]at h1
     have hz:0<sz:=by rcases Nat.eq_zero_or_pos sz with h0 |h0;· subst h0;simp at h
                      ·exact h0
     have h2:((List.range n).flatMap g).length/sz<n:=by rw[Nat.div_lt_iff_lt_mul hz];exact h
     rw[List.getElem?_eq_getElem (by rw[hg _ (by omega)];exact Nat.mod_lt _ hz)]at h1
     cases h1
    ·exact h
  rw[List.range_succ,List.flatMap_append,List.flatMap_singleton]
  by_cases hj:j<n*sz
  ·rw[List.getElem?_append_left (by omega),ih,if_pos hj,if_pos (by rw[Nat.add_mul];omega)]
  ·rw[List.getElem?_append_right (by omega),hlen]
   by_cases hj2:j<(n+1)*sz
   ·rw[if_pos hj2]
    rw[Nat.add_mul,Nat.one_mul]at hj2
    have hz:0<sz:=by omega
    have e1:j/sz=n:=by
     rw[Nat.div_eq_iff hz];constructor
     ·rw[Nat.mul_comm]at hj ⊢;omega
     ·omega
    have e2:j%sz=j-n*sz:=by
     have:=Nat.div_add_mod j sz
     rw[e1,Nat.mul_comm]at this;omega
    rw[e1,e2]
   ·rw[if_neg hj2]
    exact List.getElem?_eq_none (by rw[hg n (by omega)];rw[Nat.add_mul]at hj2;omega)
theorem ZnM(s:Sh)(a:AV):s.view1 (s.view1 a)=s.view1 a:=by cases s<;>rfl
theorem Zkl:∀ {ss:List Sh} {us pre:List AV},Cfs ss us→Zek ss pre.length (.agg (.gen (pre++us)))=us
 |[],us,pre,h=>by have:=h.1;cases us<;>simp at this;rfl
 |s::ss,us,pre,h=>by
  cases us with
  |nil=>have:=h.1;simp at this
  |cons u us=>
   obtain⟨a,rfl⟩:=(h.2 0 s u rfl rfl).1
   have ht:Cfs ss us:=⟨by have:=h.1;simpa using this,fun j s' u' hs hu=>h.2 (j+1) s' u' (by simpa using hs) (by simpa using hu)⟩
   have:=Zkl (pre:=pre++[s.view1 a]) ht
   rw[List.append_assoc,List.length_append]at this
   simp only[List.length_singleton,List.singleton_append]at this
   simp only[Zek,this]
   congr 1
   simp only[AV.cellAt,List.getD_eq_getElem?_getD,List.getElem?_append_right (Nat.le_refl _),Nat.sub_self,List.getElem?_cons_zero,Option.getD_some]
   exact ZnM s a
theorem Zrv{ss:List Sh}{us:List AV}(h:Cfs ss us):∀u∈us,u.pure=true∧u.single=true:=fun u hu=>by
 obtain⟨j,hj⟩:=List.mem_iff_getElem?.1 hu
 have hlt:=(List.getElem?_eq_some_iff.1 hj).1
 obtain⟨a,rfl⟩:=(h.2 j _ u (List.getElem?_eq_getElem (by rw[←h.1];exact hlt)) hj).1
 exact⟨Zff _ _,ZcV _ _⟩
def Zvh(ag:Bool)(us:List AV):AV:=match ag with |true=>.agg (.gen us) |false=>us.getD 0 .top
theorem Zgx{ag:Bool}{ss:List Sh}{s:Sh}{us:List AV}(hs:ZuV ag ss=some s)(h:Cfs ss us):s.view (Zvh ag us)=Zvh ag us∧(Zvh ag us).flat=us:=by
 unfold ZuV at hs
 split at hs
 ·cases hs
 ·rename_i s1 ss1
  cases hs
  refine⟨?_,rfl⟩
  have:=Zkl (pre:=[]) h
  simp only[List.nil_append,List.length_nil]at this
  simp only[Sh.view,Zvh,this]
 ·rename_i s1
  cases hs
  have hl:=h.1
  match us,hl with
  |[u],_=>
   obtain⟨⟨a,rfl⟩,_,hlf⟩:=h.2 0 _ u rfl rfl
   refine⟨?_,Zbi (ZcV _ _)⟩
   show s.view (s.view1 a)=s.view1 a
   cases s with
   |agg l=>cases hlf
   |_=>rfl
 ·cases hs
def ZeD(s:Sh)(es:List AV):Row:=match s with
 | .int k=>.ints k (es.map AV.toI)
 |s=>.big s es
theorem ZfX(s:Sh)(es:List AV):(ZeD s es).elems=es.map s.view:=by
 cases s<;>simp[ZeD,Row.elems,Sh.view,Sh.view1,List.map_map,Function.comp_def]
theorem Zhx(s:Sh)(es:List AV):AV.list (ZeD s es)=(Zys s).view1 (.list (ZeD s es)):=by cases s<;>rfl
theorem ZkX(s:Sh):(Zys s).leaf=true:=by cases s<;>rfl
theorem ZlV{g:Nat→AV}{u:Nat→List AV}{n:Nat}(h:∀i,i<n→(g i).flat=u i):Zae ((List.range n).map g)=(List.range n).flatMap u:=by
 unfold Zae
 rw[List.flatMap_map]
 exact flatMap_congr_range h
theorem ZBp(a:Addr)(i sz j:Nat):(a.add (i*sz)).add j=a.add (i*sz+j):=ZfI a _ _
theorem Zy9{t e:TypeId}{de:TypeDesc}{l:List Sh}{s:Sh}(ht:P.underlying t=some (.slice e))(hcl:P.cellsOf e=l.length)(hs:ZuV (ZaI de) l=some s)
 (IH:∀fuel cs x,DataW.trod enc P W 0 (fun _=>true) true fuel e cs=some x→Rd W L l cs) {fuel:Nat} {cs:List Value} {x:DataW H×List MemPlace} (h:DataW.trod enc P W 0 (fun _=>true) true fuel t cs=some x):Rd W L [Zys s] cs:=by
 have hpos:0<l.length:=by
  unfold ZuV at hs
  split at hs<;>first |(cases hs;done) |simp
 have emp:∀ad c,Rd W L [Zys s] [.slice ad 0 c]:=fun ad c=>Rd.one (u:=.list (ZeD s [])) (.nil _ ad c (by rw[ZfX];rfl)) rfl ⟨⟨_,Zhx s []⟩,by cases s<;>simp[ZeD,wfV],ZkX s⟩
 rcases open_slice ht h with⟨rfl,_⟩ |⟨a,len,cap,m,n,D,Pl,rfl,hb,hl,hm,hmm,_,hx⟩
 ·exact emp none 0
 ·by_cases h0:len=0
  ·subst h0;exact emp (some a) cap
  ·simp only[if_true]at hmm
   subst hmm
   obtain⟨F,hF⟩:=choose_lt (α:=List Value×List AV) (n:=len) (p:=fun i p=>W.cells? 0 (a.add (i*P.cellsOf e)) (P.cellsOf e)=some p.1∧RelL W (Zjk W) [] L p.2 p.1∧(∀c∈p.1,c.oneCell'=true)∧Cfs l p.2) (fun i hi=>by
    obtain⟨cs',h1,h2⟩:=hx i (by omega)
    obtain⟨us,r,o,f⟩:=IH _ _ _ h2
    exact⟨(cs',us),h1,r,o,f⟩)
   rw[hcl]at hF
   have hcells:∀i,i<len→(F i).1.length=l.length∧∀j,j<l.length→W.cell? (a.add (i*l.length+j))=(F i).1[j]?:=fun i hi=>by
    obtain⟨_,g1,g2⟩:=World.cells?_some (hF i hi).1
    exact⟨g1,fun j hj=>by rw[←ZBp];exact g2 j hj⟩
   have hul:∀i,i<len→(F i).2.length=l.length:=fun i hi=>(hF i hi).2.2.2.1
   obtain⟨es,hes⟩:∃es,es=(List.range len).map fun i=>Zvh (ZaI de) (F i).2:=⟨_,rfl⟩
   have hview:es.map s.view=es:=by
    rw[hes,List.map_map]
    exact List.map_congr_left fun i hi=>(Zgx hs (hF i (List.mem_range.1 hi)).2.2.2).1
   have hfl:Zae es=(List.range len).flatMap fun i=>(F i).2:=by
    rw[hes];exact ZlV fun i hi=>(Zgx hs (hF i hi).2.2.2).2
   have hsz:∀x∈es,x.flat.length=l.length:=fun x hx=>by
    rw[hes]at hx
    obtain⟨i,hi,rfl⟩:=List.mem_map.1 hx
    rw[(Zgx hs (hF i (List.mem_range.1 hi)).2.2.2).2]
    exact hul i (List.mem_range.1 hi)
   have hlen:es.length=len:=by rw[hes];simp
   have gU:=Zjo (fun i=>(F i).2) len hul
   have gV:=Zjo (fun i=>(F i).1) len (fun i hi=>(hcells i hi).1)
   have hlt:a.block<W.heap.size:=by
    have h1:=(hcells 0 (by omega)).2 0 hpos
    rw[List.getElem?_eq_getElem (by rw[(hcells 0 (by omega)).1];exact hpos)]at h1
    have:=ZwL h1
    rw[Zcx]at this;exact this
   have hidx:∀j,j<len*l.length→j/l.length<len∧j%l.length<l.length:=fun j hj=>⟨by rw[Nat.div_lt_iff_lt_mul hpos];exact hj,Nat.mod_lt _ hpos⟩
   refine Rd.one (u:=.list (ZeD s es)) ?_ rfl ⟨⟨_,Zhx s es⟩,?_,ZkX s⟩
   ·refine .list (ZeD s es) es (by rw[ZfX,hview]) a len _ l.length ((List.range len).flatMap fun i=>(F i).1) hlt hlt hlen.symm hl hsz ?_ ?_ ?_ ?_ ?_
    ·rw[hfl]
     have e1:∀(g:Nat→List Value) (k:Nat→List AV) (n:Nat),(∀i,i<n→(g i).length=(k i).length)→((List.range n).flatMap g).length=((List.range n).flatMap k).length:=by
      intro g k n
      induction n with
      |zero=>intro _;rfl
      |succ n ih=>
       intro hgk
       rw[List.range_succ,List.flatMap_append,List.flatMap_append,List.length_append,List.length_append,ih (fun i hi=>hgk i (by omega))]
       simp[hgk n (by omega)]
     exact e1 _ _ _ fun i hi=>by rw[(hcells i hi).1,hul i hi]
    ·intro c hc
     obtain⟨i,hi,hc⟩:=List.mem_flatMap.1 hc
     exact(hF i (List.mem_range.1 hi)).2.2.1 c hc
    ·intro j v hj
     rw[gV j]at hj
     split at hj
     ·rename_i hjl
      obtain⟨q1,q2⟩:=hidx j hjl
      have:=(hcells _ q1).2 _ q2
      rw[show j/l.length*l.length+j%l.length=j by rw[Nat.mul_comm];exact Nat.div_add_mod j _]at this
      rw[this,hj]
     ·cases hj
    ·rw[hfl]
     exact ZfV fun u hu=>by
      obtain⟨i,hi,hu⟩:=List.mem_flatMap.1 hu
      exact(Zrv (hF i (List.mem_range.1 hi)).2.2.2 u hu).1
    ·intro j u v hu hv
     rw[hfl,gU j]at hu
     rw[gV j]at hv
     split at hu
     ·rename_i hjl
      rw[if_pos hjl]at hv
      exact(hF _ (hidx j hjl).1).2.1.2 _ u v hu hv
     ·cases hu
   ·unfold ZeD
    split
    ·rename_i k
     simp only[wfV]
     intro z hz
     obtain⟨e1,he1,rfl⟩:=List.mem_map.1 hz
     rw[hes]at he1
     obtain⟨i,hi,rfl⟩:=List.mem_map.1 he1
     have hc:=(hF i (List.mem_range.1 hi)).2.2.2
     unfold ZuV at hs
     split at hs
     ·cases hs
     ·cases hs
     ·rename_i s1 hag
      cases hs
      have hl1:=hc.1
      rw[show ZaI de=false from by first |assumption |(rename_i hx _ _;exact hx)] 
      match hq:(F i).2,hl1 with
      |[u],_=>
       obtain⟨⟨a,ha⟩,hw,_⟩:=hc.2 0 (.int k) u rfl (by rw[hq];rfl)
       subst ha
       exact hw
     ·cases hs
    ·cases s with
     |agg ss=>
      show ∀x∈es,wfE ss x
      intro x hx j k hj
      rw[hes]at hx
      obtain⟨i,hi,rfl⟩:=List.mem_map.1 hx
      have hc:=(hF i (List.mem_range.1 hi)).2.2.2
      unfold ZuV at hs
      split at hs
      ·cases hs
      ·rename_i s1 ss1 hag
       cases hs
       rw[show ZaI de=true from by first |assumption |(rename_i hx2 _ _;exact hx2)]
       have hlt2:j<(F i).2.length:=by
        rw[hc.1]
        exact(List.getElem?_eq_some_iff.1 hj).1
       obtain⟨⟨a,ha⟩,hw,_⟩:=hc.2 j (.int k) _ hj (List.getElem?_eq_getElem hlt2)
       have he:(Zvh true (F i).2).cellAt j=(F i).2[j]:=by simp[Zvh,AV.cellAt,List.getD_eq_getElem?_getD,List.getElem?_eq_getElem hlt2]
       rw[he,ha]
       rw[ha]at hw
       exact hw
      ·rename_i s1 hag
       cases hs
       have hl1:=hc.1
       match hq:(F i).2,hl1 with
       |[u],_=>
        obtain⟨_,_,hlf⟩:=hc.2 0 (.agg ss) u rfl (by rw[hq];rfl)
        cases hlf
      ·cases hs
     |_=>trivial
theorem ZpA:∀(d:Nat) (t:TypeId) (ss:List Sh),ZrP P d t=some ss→∀(fuel:Nat) (cs:List Value) (x:DataW H×List MemPlace),DataW.trod enc P W 0 (fun _=>true) true fuel t cs=some x→Rd W L ss cs
 |0,t,ss,h,_,_,_,_=>by simp[ZrP]at h
 |d+1,t,ss,h,fuel,cs,x,hx=>by
  have IH:=ZpA d
  simp only[ZrP]at h
  split at h
  ·rename_i td ht
   split at h
   ·rename_i l hl
    split at h
    ·rename_i hsz
     simp only[Option.some.injEq]at h
     subst h
     have hsz:P.cellsOf t=l.length:=by simpa using hsz
     unfold ZEl at hl
     split at hl
     ·rename_i k
      cases hl
      obtain⟨n,rfl,_,hw⟩:=DataW.trod_int ht hx
      exact Rd.one (.int k n) rfl ⟨⟨.int k n,rfl⟩,hw,rfl⟩
     ·cases hl
      obtain⟨b,rfl,_⟩:=DataW.trod_bool ht hx
      exact Rd.one (.bool b) rfl ⟨⟨.bool b,rfl⟩,trivial,rfl⟩
     ·cases hl
      obtain⟨s,rfl,_,_⟩:=DataW.trod_string ht hx
      have e:s=⟨s.data.toList.toArray⟩:=by simp
      refine Rd.one (u:=.str s.data.toList) ?_ rfl ⟨⟨.str s.data.toList,rfl⟩,trivial,rfl⟩
      have:=Rel.str (w:=W) (ok:=Zjk W) (h:=[]) (L:=L) s.data.toList
      rw[←e]at this
      exact this
     ·rename_i fs
      obtain⟨xs,n,_,_,hlen,hxl,hf⟩:=DataW.trod_struct ht hx
      have:=ZA0 (P:=P) (W:=W) (L:=L) (enc:=enc) (n:=n) IH (cs:=cs) fs.toList 0 l hl (fun i fd hfd=>by
       have hfd':fs[i]? =some fd:=by simpa using hfd
       have h1:=hf i fd hfd'
       have hi:i<xs.length:=by rw[hxl];exact(Array.getElem?_eq_some_iff.1 hfd').1
       exact⟨xs[i],by rw[h1,List.getElem?_eq_getElem hi]⟩) (by simp[hlen,hsz])
      simpa using this
     ·rename_i n e
      split at hl
      ·rename_i le hle
       split at hl
       ·rename_i hce
        simp only[Option.some.injEq]at hl
        subst hl
        have hce:P.cellsOf e=le.length:=by simpa using hce
        obtain⟨xs,m,_,_,hlen,hxl,hf⟩:=DataW.trod_array ht hx
        have:=ZtH (W:=W) (L:=L) (l:=le) (n:=n) (c:=P.cellsOf e) (e:=e) (cs:=cs) hce (fun i hi=>by
         have h1:=hf i hi
         rw[List.getElem?_eq_getElem (by rw[hxl];exact hi)]at h1
         exact IH _ _ hle _ _ _ h1) n 0 (by simp) (by rw[hlen,hsz,hce];simp)
        simpa using this
       ·cases hl
      ·cases hl
     ·rename_i e
      split at hl
      ·rename_i le de hle hde
       split at hl
       ·rename_i s hce hs
        simp only[Option.some.injEq]at hl
        subst hl
        exact Zy9 ht (by simpa using hce) hs (fun fuel cs x hx=>IH _ _ hle fuel cs x hx) hx
       ·cases hl
      ·cases hl
     ·cases hl
    ·cases h
   ·cases h
  ·cases h
theorem ZtN{d:Nat}{t:TypeId}{ss:List Sh}(hs:ZrP P d t=some ss){v:Value}{dd:DataW H}{ps:List MemPlace}(hv:∃cs,v=.agg cs∧cs.size=P.cellsOf t)(h:DataW.Trod enc P W 0 (fun _=>true) true t v dd ps):
 ∃us,Rel W (Zjk W) [] L (.agg (.gen us)) v∧Cfs ss us:=by
 obtain⟨cs,rfl,_⟩:=hv
 obtain⟨fuel,hf⟩:=h
 obtain⟨us,r,o,f⟩:=ZpA (L:=L) d t ss hs fuel _ _ hf
 exact⟨us, .agg _ us rfl cs (by simpa[Value.cells]using r.1) (fun c hc=>o c (by simpa[Value.cells]using hc)) (fun j u v hu hv=>r.2 j u v hu (by simpa[Value.cells]using hv)),f⟩
theorem Zzc{d:Nat}{t:TypeId}{s:Sh}(hs:ZrP P d t=some [s]){v:Value}{dd:DataW H}{ps:List MemPlace}(hv:v.oneCell'=true)(h:DataW.Trod enc P W 0 (fun _=>true) true t v dd ps):
 ∃u,Rel W (Zjk W) [] L u v∧Cf s u:=by
 obtain⟨fuel,hf⟩:=h
 have hcs:v.cells.toList=[v]:=by cases v<;>first |rfl |(simp [Value.oneCell']at hv)
 obtain⟨us,r,o,f⟩:=ZpA (L:=L) d t [s] hs fuel _ _ hf
 rw[hcs]at r
 match us,f.1 with
 |[u],_=>exact⟨u,r.2 0 u v rfl rfl,f.2 0 s u rfl rfl⟩
end
end Go.Proofs.Ytklbmkllepkjcaa
/- The cells of some types, as they are read. No condition. -/
namespace Go.Proofs.Ytklbmkllepkjcaa
theorem ZoJ{k:IntKind}{u:AV}(h:Cf (.int k) u):∃n,u=.int k n∧(Lit.int k n).wf=true:=by
 obtain⟨⟨a,rfl⟩,hw,_⟩:=h
 exact⟨_,rfl,hw⟩
theorem ZpX{k:IntKind}{u:AV}(h:Cf (.ints k) u):∃l:List Int,u=.list (.ints k l)∧∀x∈l,(Lit.int k x).wf=true:=by
 obtain⟨⟨a,rfl⟩,hw,_⟩:=h
 exact⟨_,rfl,hw⟩
theorem Zz2{s:Sh}{u:AV}(h:Cf (.big s) u):∃l:List AV,u=.list (.big s l):=by
 obtain⟨⟨a,rfl⟩,hw,_⟩:=h
 exact⟨_,rfl⟩
theorem Zo5{us:List AV}(h:Cfs [] us):us=[]:=List.eq_nil_of_length_eq_zero h.1
theorem ZeZ{s:Sh}{ss:List Sh}{us:List AV}(h:Cfs (s::ss) us):∃u r,us=u::r∧Cf s u∧Cfs ss r:=by
 cases us with
 |nil=>have:=h.1;simp at this
 |cons u r=>exact⟨u,r,rfl,h.2 0 s u rfl rfl,by have:=h.1;simpa using this,fun j s' u' hs hu=>h.2 (j+1) s' u' (by simpa using hs) (by simpa using hu)⟩
end Go.Proofs.Ytklbmkllepkjcaa
/- The cells of the laws' types, as they are read. No condition. -/
namespace Go.Proofs.Ytklbmkllepkjcaa
theorem ZuN{us:List AV}(h:Cfs [.int .i64, .int .i64, .int .i64] us):∃a b c,us=[.int .i64 a, .int .i64 b, .int .i64 c]:=by
 obtain⟨u,r,rfl,h1,h⟩:=ZeZ h
 obtain⟨u2,r,rfl,h2,h⟩:=ZeZ h
 obtain⟨u3,r,rfl,h3,h⟩:=ZeZ h
 obtain rfl:=Zo5 h
 obtain⟨a,rfl,_⟩:=ZoJ h1
 obtain⟨b,rfl,_⟩:=ZoJ h2
 obtain⟨c,rfl,_⟩:=ZoJ h3
 exact⟨a,b,c,rfl⟩
theorem ZwV{us:List AV}(h:Cfs [.ints .i64, .ints .i64] us):∃a b:List Int,us=[.list (.ints .i64 a), .list (.ints .i64 b)]:=by
 obtain⟨u,r,rfl,h1,h⟩:=ZeZ h
 obtain⟨u2,r,rfl,h2,h⟩:=ZeZ h
 obtain rfl:=Zo5 h
 obtain⟨a,rfl,_⟩:=ZpX h1
 obtain⟨b,rfl,_⟩:=ZpX h2
 exact⟨a,b,rfl⟩
end Go.Proofs.Ytklbmkllepkjcaa
/- Paths of functions, printed by the explorer (Gx). No condition. -/
namespace Go.Proofs.Ytklbmkllepkjcaa
set_option maxRecDepth 100000
set_option linter.unusedVariables false
def Zt4(xs:List Int):AFrame:={ fn:=104,N:=8,env:=[(0,AV.list (.ints .i64 xs))],todo:=[.code a104.code],defs:=[],rnd:=none,ret:=false,res:=[ARes.tmp 2] }
def ZBV(xs:List Int):List AFrame:=[(Zt4 xs)]
theorem Zr3(xs:List Int):Zat tab 104 [AV.list (.ints .i64 xs)]=some (Zt4 xs):=rfl
def Zty(A:Ar)(K:KT)(F:FT)(xs:List Int):Prop:=rB [Nat.blt 0 (A.len xs)] (rB [Nat.ble (0+A.len xs) 4294967296,List.all [] fun x=>AV.bx x&&Nat.beq (Zan A x) 1] (F (AV.row 0 0) (some { e:=3,sz:=1,r:=.ints .i64 xs })))
theorem ZAX{A:Ar}{K:KT}{F:FT}{M:MT}{xs:List Int} :Zas A tab E0 104 K F M (.run 10 (.fy (.run 9 (.fn)))) (ZBV xs) []=Zty A K F xs:=by kernel_rfl
def ZqO(cap:Nat):AFrame:={ fn:=104,N:=8,env:=[(0,AV.val (Go.Value.slice none 0 cap))],todo:=[.code a104.code],defs:=[],rnd:=none,ret:=false,res:=[ARes.tmp 2] }
def Zx0(cap:Nat):List AFrame:=[(ZqO cap)]
theorem ZoK(cap:Nat):Zat tab 104 [AV.val (Go.Value.slice none 0 cap)]=some (ZqO cap):=rfl
def ZoF(A:Ar)(K:KT)(F:FT)(cap:Nat):Prop:=F (AV.nils) (none)
theorem Zv6{A:Ar}{K:KT}{F:FT}{M:MT}{cap:Nat} :Zas A tab E0 104 K F M (.run 10 (.ty (.run 5 (.fn)))) (Zx0 cap) []=ZoF A K F cap:=by kernel_rfl
def Zqq(ad:Go.Addr)(cap:Nat):AFrame:={ fn:=104,N:=8,env:=[(0,AV.val (Go.Value.slice (some ad) 0 cap))],todo:=[.code a104.code],defs:=[],rnd:=none,ret:=false,res:=[ARes.tmp 2] }
def ZBf(ad:Go.Addr)(cap:Nat):List AFrame:=[(Zqq ad cap)]
theorem Zpa(ad:Go.Addr)(cap:Nat):Zat tab 104 [AV.val (Go.Value.slice (some ad) 0 cap)]=some (Zqq ad cap):=rfl
def Zqa(A:Ar)(K:KT)(F:FT)(ad:Go.Addr)(cap:Nat):Prop:=rB [List.all [] fun x=>AV.bx x&&Nat.beq (Zan A x) 1] (F (AV.row 0 0) (some { e:=3,sz:=1,r:=Row.gen [] }))
theorem ZwF{A:Ar}{K:KT}{F:FT}{M:MT}{ad:Go.Addr}{cap:Nat} :Zas A tab E0 104 K F M (.run 10 (.fy (.run 9 (.fn)))) (ZBf ad cap) []=Zqa A K F ad cap:=by kernel_rfl
end Go.Proofs.Ytklbmkllepkjcaa
/- Contracts as a list. No condition. -/
namespace Go.Proofs.Ytklbmkllepkjcaa
theorem Zhu(xs:List Int)(h:xs.length≤1000000):Zah Try.prog 104 [.list (.ints .i64 xs)] (.row 0 0) (some ⟨3,1, .ints .i64 xs⟩):=by
 by_cases h0:xs=[]
 ·subst h0
  refine ZnG rfl fun ad cap=>?_
  cases ad with
  |none=>exact Zsw (r0:=.nils) (start (ZoK cap) fun C hC=>tgo hC ZqU Zv6 (by simp[ZoF])) rfl rfl (by omega)
  |some ad=>exact Zsg (r:=.gen []) (start (Zpa ad cap) fun C hC=>tgo hC ZqU ZwF (by simp[Zqa])) (by omega) rfl
 ·have:=List.length_pos_iff.2 h0
  exact start (Zr3 xs) fun C hC=>tgo hC ZqU ZAX (by simp[Zty];omega)
def k104:Ctr:=⟨104,0,fun _ a=>match a with |[.list (.ints .i64 xs)]=>some (decide (xs.length≤1000000), .row 0 0,some ⟨3,1, .ints .i64 xs⟩) |_=>none⟩
theorem ZwR:k104.OK Try.prog:=fun pa args r fr h=>by
 simp only[k104]at h
 split at h
 ·simp only[Option.some.injEq,Prod.mk.injEq,decide_eq_true_eq]at h
  obtain⟨h0,rfl,rfl⟩:=h
  exact Zhu _ h0
 ·cases h
def N0:List Ctr:=[k104]++E0
theorem ZcB:ZaP Try.prog N0:=⟨ZwR,ZqU⟩
end Go.Proofs.Ytklbmkllepkjcaa
/- Paths of functions, printed by the explorer (Gx). No condition. -/
namespace Go.Proofs.Ytklbmkllepkjcaa
set_option maxRecDepth 100000
set_option linter.unusedVariables false
def ZBc(n lo hi:Int):AFrame:={ fn:=91,N:=15,env:=[(0,AV.int .i64 n),(1,AV.int .i64 lo),(2,AV.int .i64 hi)],todo:=[.code a91.code],defs:=[],rnd:=none,ret:=false,res:=[ARes.tmp 6] }
def ZE9(n lo hi:Int):List AFrame:=[(ZBc n lo hi)]
theorem Zvx(n lo hi:Int):Zat tab 91 [AV.int .i64 n,AV.int .i64 lo,AV.int .i64 hi]=some (ZBc n lo hi):=rfl
def ZyJ(A:Ar)(K:KT)(F:FT)(n lo hi:Int):Prop:=bB (A.le lo n) (F (AV.bool (A.le n hi)) (none)) (F (AV.bool false) (none))
theorem ZDr{A:Ar}{K:KT}{F:FT}{M:MT}{n lo hi:Int} :Zas A tab N0 91 K F M (.run 10 (.tf (.ty (.ty (.ty (.run 4 (.fn))))) (.fy (.fy (.fy (.run 4 (.fn))))))) (ZE9 n lo hi) []=ZyJ A K F n lo hi:=by kernel_rfl
def Zxy(n lo hi:Int):AFrame:={ fn:=30,N:=15,env:=[(0,AV.int .i64 n),(1,AV.int .i64 lo),(2,AV.int .i64 hi)],todo:=[.code a30.code],defs:=[],rnd:=none,ret:=false,res:=[ARes.tmp 6] }
def ZF0(n lo hi:Int):List AFrame:=[(Zxy n lo hi)]
theorem Zve(n lo hi:Int):Zat tab 30 [AV.int .i64 n,AV.int .i64 lo,AV.int .i64 hi]=some (Zxy n lo hi):=rfl
def Zyk(A:Ar)(K:KT)(F:FT)(n lo hi:Int):Prop:=bB (A.le lo n) (F (AV.bool (A.le n hi)) (none)) (F (AV.bool false) (none))
theorem ZCM{A:Ar}{K:KT}{F:FT}{M:MT}{n lo hi:Int} :Zas A tab N0 30 K F M (.run 10 (.tf (.ty (.ty (.ty (.run 4 (.fn))))) (.fy (.fy (.fy (.run 4 (.fn))))))) (ZF0 n lo hi) []=Zyk A K F n lo hi:=by kernel_rfl
def ZAK(b:Bool)(e:Int):AFrame:={ fn:=85,N:=7,env:=[(0,AV.bool b),(1,AV.int .i64 e)],todo:=[.code a85.code],defs:=[],rnd:=none,ret:=false,res:=[ARes.tmp 4] }
def ZFE(b:Bool)(e:Int):List AFrame:=[(ZAK b e)]
theorem Zvd(b:Bool)(e:Int):Zat tab 85 [AV.bool b,AV.int .i64 e]=some (ZAK b e):=rfl
def Zzk(A:Ar)(K:KT)(F:FT)(b:Bool)(e:Int):Prop:=bB (b) (F (AV.int .i64 0) (none)) (F (AV.int .i64 e) (none))
theorem ZC7{A:Ar}{K:KT}{F:FT}{M:MT}{b:Bool}{e:Int} :Zas A tab N0 85 K F M (.run 9 (.tf (.run 5 (.fn)) (.run 7 (.fn)))) (ZFE b e) []=Zzk A K F b e:=by kernel_rfl
def ZyG(xs:List Int):AFrame:={ fn:=72,N:=15,env:=[(0,AV.list (.ints .i64 xs))],todo:=[.code a72.code],defs:=[],rnd:=none,ret:=false,res:=[ARes.tmp 2] }
def ZFC(xs:List Int):List AFrame:=[(ZyG xs)]
theorem Zwj(xs:List Int):Zat tab 72 [AV.list (.ints .i64 xs)]=some (ZyG xs):=rfl
def ZgQ(xs:List Int)(n0 n1:Int):List AFrame:=[{ fn:=72,N:=15,env:=[(5,AV.list (.ints .i64 xs)),(6,AV.int .i64 n0),(7,AV.int .i64 n1)],todo:=.code (ACode.gh [] Zx7)::ZCD,defs:=[],rnd:=none,ret:=false,res:=[ARes.tmp 2] }]
def ZfN(xs:List Int)(n0 n1:Int):Zac:=[]
abbrev Zil(xs:List Int)(n0 n1:Int):List AFrame×Zac:=(ZgQ xs n0 n1,ZfN xs n0 n1)
def ZyF(A:Ar)(K:KT)(F:FT)(xs:List Int):Prop:=K (Zil (xs) (A.int (A.len xs)) (0))
theorem ZCB{A:Ar}{K:KT}{F:FT}{M:MT}{xs:List Int} :Zas A tab N0 72 K F M (.run 14 (.hd)) (ZFC xs) []=ZyF A K F xs:=by kernel_rfl
def Zdq(A:Ar)(K:KT)(F:FT)(xs:List Int)(n0 n1:Int):Prop:=bB (A.lt n1 n0) (rB [Zaf (Zaf (A.le 0 n1) (Nat.blt (A.nat n1) (A.len xs))) true] (bB (A.not (A.eq (A.nth xs (A.nat n1)) 0)) (F (AV.int .i64 (A.nth xs (A.nat n1))) (none)) (rB [A.inR .i64 (A.add n1 1)] (K (Zil (xs) (n0) (A.add n1 1)))))) (F (AV.int .i64 0) (none))
theorem ZiB{A:Ar}{K:KT}{F:FT}{M:MT}{xs:List Int}{n0 n1:Int} :Zas A tab N0 72 K F M (.run 6 (.tf (.run 14 (.tf (.run 6 (.fn)) (.run 8 (.hd)))) (.run 6 (.fn)))) (ZgQ xs n0 n1) (ZfN xs n0 n1)=Zdq A K F xs n0 n1:=by kernel_rfl
def ZAb(xs:List Int):AFrame:={ fn:=14,N:=6,env:=[(0,AV.list (.ints .i64 xs))],todo:=[.code a14.code],defs:=[],rnd:=none,ret:=false,res:=[ARes.tmp 2] }
def ZF7(xs:List Int):List AFrame:=[(ZAb xs)]
theorem ZwN(xs:List Int):Zat tab 14 [AV.list (.ints .i64 xs)]=some (ZAb xs):=rfl
def ZzN(A:Ar)(K:KT)(F:FT)(xs:List Int):Prop:=rB [Nat.ble (0+A.len xs) 4294967296,List.all [] fun x=>AV.bx x&&Nat.beq (Zan A x) 1] (F (AV.row 0 0) (some { e:=3,sz:=1,r:=.ints .i64 xs }))
theorem ZCR{A:Ar}{K:KT}{F:FT}{M:MT}{xs:List Int} :Zas A tab N0 14 K F M (.run 12 (.fn)) (ZF7 xs) []=ZzN A K F xs:=by kernel_rfl
def ZzB(xs ys:List Int):AFrame:={ fn:=17,N:=26,env:=[(0,AV.list (.ints .i64 xs)),(1,AV.list (.ints .i64 ys))],todo:=[.code a17.code],defs:=[],rnd:=none,ret:=false,res:=[ARes.tmp 4] }
def ZF5(xs ys:List Int):List AFrame:=[(ZzB xs ys)]
theorem Zwg(xs ys:List Int):Zat tab 17 [AV.list (.ints .i64 xs),AV.list (.ints .i64 ys)]=some (ZzB xs ys):=rfl
def Zg5(xs ys:List Int)(n0:Int):List AFrame:=[{ fn:=17,N:=26,env:=[(0,AV.list (.ints .i64 xs)),(1,AV.list (.ints .i64 ys)),(5,AV.int .i64 n0)],todo:=.code (ACode.gh [] Zzy)::ZBW,defs:=[],rnd:=none,ret:=false,res:=[ARes.tmp 4] }]
def Zfl(xs ys:List Int)(n0:Int):Zac:=[]
abbrev Ziy(xs ys:List Int)(n0:Int):List AFrame×Zac:=(Zg5 xs ys n0,Zfl xs ys n0)
def ZvH(A:Ar)(K:KT)(F:FT)(xs ys:List Int):Prop:=bB (A.not (A.eq (A.int (A.len xs)) (A.int (A.len ys)))) (F (AV.bool false) (none)) (K (Ziy (xs) (ys) (0)))
theorem ZDA{A:Ar}{K:KT}{F:FT}{M:MT}{xs ys:List Int} :Zas A tab N0 17 K F M (.run 13 (.tf (.run 5 (.fn)) (.run 9 (.hd)))) (ZF5 xs ys) []=ZvH A K F xs ys:=by kernel_rfl
def Zdu(A:Ar)(K:KT)(F:FT)(xs ys:List Int)(n0:Int):Prop:=bB (A.lt n0 (A.int (A.len xs))) (rB [Zaf (Zaf (A.le 0 n0) (Nat.blt (A.nat n0) (A.len ys))) true,Zaf (Zaf (A.le 0 n0) (Nat.blt (A.nat n0) (A.len xs))) true] (bB (A.not (A.eq (A.nth xs (A.nat n0)) (A.nth ys (A.nat n0)))) (F (AV.bool false) (none)) (rB [A.inR .i64 (A.add n0 1)] (K (Ziy (xs) (ys) (A.add n0 1)))))) (F (AV.bool true) (none))
theorem Zid{A:Ar}{K:KT}{F:FT}{M:MT}{xs ys:List Int}{n0:Int} :Zas A tab N0 17 K F M (.run 9 (.tf (.run 6 (.tf (.run 5 (.fn)) (.run 9 (.hd)))) (.run 6 (.fn)))) (Zg5 xs ys n0) (Zfl xs ys n0)=Zdu A K F xs ys n0:=by kernel_rfl
def Zz5(xs:List Int):AFrame:={ fn:=33,N:=22,env:=[(0,AV.list (.ints .i64 xs))],todo:=[.code a33.code],defs:=[],rnd:=none,ret:=false,res:=[ARes.tmp 2] }
def ZGb(xs:List Int):List AFrame:=[(Zz5 xs)]
theorem Zv7(xs:List Int):Zat tab 33 [AV.list (.ints .i64 xs)]=some (Zz5 xs):=rfl
def Zhn(xs:List Int)(n0:Int):List AFrame:=[{ fn:=33,N:=22,env:=[(0,AV.list (.ints .i64 xs)),(3,AV.int .i64 n0)],todo:=.code (ACode.gh [] ZAp)::ZCW,defs:=[],rnd:=none,ret:=false,res:=[ARes.tmp 2] }]
def Zfi(xs:List Int)(n0:Int):Zac:=[]
abbrev Zfp(xs:List Int)(n0:Int):List AFrame×Zac:=(Zhn xs n0,Zfi xs n0)
def ZA5(A:Ar)(K:KT)(F:FT)(xs:List Int):Prop:=K (Zfp (xs) (0))
theorem ZDz{A:Ar}{K:KT}{F:FT}{M:MT}{xs:List Int} :Zas A tab N0 33 K F M (.run 12 (.hd)) (ZGb xs) []=ZA5 A K F xs:=by kernel_rfl
def ZcA(A:Ar)(K:KT)(F:FT)(xs:List Int)(n0:Int):Prop:=bB (A.lt n0 (A.int (A.len xs))) (rB [Zaf (Zaf (A.le 0 n0) (Nat.blt (A.nat n0) (A.len xs))) true] (bB (A.not (A.eq (A.nth xs (A.nat n0)) 0)) (rB [Zaf (Zaf (A.le 0 n0) (Nat.blt (A.nat n0) (A.len xs))) true] (bB (A.not (A.eq (A.nth xs (A.nat n0)) 1)) (F (AV.bool false) (none)) (rB [A.inR .i64 (A.add n0 1)] (K (Zfp (xs) (A.add n0 1)))))) (rB [A.inR .i64 (A.add n0 1)] (K (Zfp (xs) (A.add n0 1)))))) (F (AV.bool true) (none))
theorem ZhW{A:Ar}{K:KT}{F:FT}{M:MT}{xs:List Int}{n0:Int} :Zas A tab N0 33 K F M (.run 9 (.tf (.run 11 (.tf (.ty (.ty (.ty (.ty (.ty (.run 2 (.tf (.run 5 (.fn)) (.run 9 (.hd))))))))) (.fy (.fy (.fy (.fy (.fy (.run 2 (.fy (.run 9 (.hd))))))))))) (.run 6 (.fn)))) (Zhn xs n0) (Zfi xs n0)=ZcA A K F xs n0:=by kernel_rfl
def ZzS(xs ys:List Int):AFrame:={ fn:=41,N:=41,env:=[(0,AV.list (.ints .i64 xs)),(1,AV.list (.ints .i64 ys))],todo:=[.code a41.code],defs:=[],rnd:=none,ret:=false,res:=[ARes.tmp 4] }
def ZE0(xs ys:List Int):List AFrame:=[(ZzS xs ys)]
theorem ZuT(xs ys:List Int):Zat tab 41 [AV.list (.ints .i64 xs),AV.list (.ints .i64 ys)]=some (ZzS xs ys):=rfl
def ZgE(xs ys:List Int)(n0:Int):List AFrame:=[{ fn:=41,N:=41,env:=[(0,AV.list (.ints .i64 xs)),(1,AV.list (.ints .i64 ys)),(5,AV.int .i64 n0)],todo:=.code (ACode.gh [] ZxQ)::ZBY,defs:=[],rnd:=none,ret:=false,res:=[ARes.tmp 4] }]
def Zfm(xs ys:List Int)(n0:Int):Zac:=[]
abbrev ZiU(xs ys:List Int)(n0:Int):List AFrame×Zac:=(ZgE xs ys n0,Zfm xs ys n0)
def ZyW(A:Ar)(K:KT)(F:FT)(xs ys:List Int):Prop:=K (ZiU (xs) (ys) (0))
theorem ZCI{A:Ar}{K:KT}{F:FT}{M:MT}{xs ys:List Int} :Zas A tab N0 41 K F M (.run 12 (.hd)) (ZE0 xs ys) []=ZyW A K F xs ys:=by kernel_rfl
def ZbQ(A:Ar)(K:KT)(F:FT)(xs ys:List Int)(n0:Int):Prop:=bB (A.lt n0 (A.int (A.len xs))) (bB (A.lt n0 (A.int (A.len ys))) (rB [Zaf (Zaf (A.le 0 n0) (Nat.blt (A.nat n0) (A.len ys))) true,Zaf (Zaf (A.le 0 n0) (Nat.blt (A.nat n0) (A.len xs))) true] (bB (A.not (A.eq (A.nth xs (A.nat n0)) (A.nth ys (A.nat n0)))) (rB [Zaf (Zaf (A.le 0 n0) (Nat.blt (A.nat n0) (A.len ys))) true,Zaf (Zaf (A.le 0 n0) (Nat.blt (A.nat n0) (A.len xs))) true] (F (AV.bool (A.lt (A.nth xs (A.nat n0)) (A.nth ys (A.nat n0)))) (none))) (rB [A.inR .i64 (A.add n0 1)] (K (ZiU (xs) (ys) (A.add n0 1)))))) (F (AV.bool (A.lt (A.int (A.len xs)) (A.int (A.len ys)))) (none))) (F (AV.bool (A.lt (A.int (A.len xs)) (A.int (A.len ys)))) (none))
theorem ZhR{A:Ar}{K:KT}{F:FT}{M:MT}{xs ys:List Int}{n0:Int} :Zas A tab N0 41 K F M (.run 9 (.tf (.ty (.ty (.ty (.ty (.run 2 (.tf (.run 6 (.tf (.run 4 (.fn)) (.run 9 (.hd)))) (.run 11 (.fn)))))))) (.fy (.fy (.fy (.fy (.run 2 (.fy (.run 11 (.fn)))))))))) (ZgE xs ys n0) (Zfm xs ys n0)=ZbQ A K F xs ys n0:=by kernel_rfl
def ZA4(a b:Int):AFrame:={ fn:=89,N:=10,env:=[(0,AV.int .i64 a),(1,AV.int .i64 b)],todo:=[.code a89.code],defs:=[],rnd:=none,ret:=false,res:=[ARes.tmp 4] }
def ZFj(a b:Int):List AFrame:=[(ZA4 a b)]
theorem Zvc(a b:Int):Zat tab 89 [AV.int .i64 a,AV.int .i64 b]=some (ZA4 a b):=rfl
def ZAT(A:Ar)(K:KT)(F:FT)(a b:Int):Prop:=bB (A.eq a 0) (F (AV.int .i64 b) (none)) (rB [A.inR .i64 (A.neg b)] (F (AV.int .i64 (A.neg b)) (none)))
theorem ZDC{A:Ar}{K:KT}{F:FT}{M:MT}{a b:Int} :Zas A tab N0 89 K F M (.run 10 (.tf (.run 6 (.fn)) (.run 8 (.fn)))) (ZFj a b) []=ZAT A K F a b:=by kernel_rfl
def Zyo(m g0 g1:Int)(xs:List Int):AFrame:={ fn:=84,N:=7,env:=[(0,AV.agg (Row.gen [.int .i64 m, .int .i64 g0, .int .i64 g1, .list (.ints .i64 xs)]))],todo:=[.code a84.code],defs:=[],rnd:=none,ret:=false,res:=[ARes.tmp 2] }
def ZE3(m g0 g1:Int)(xs:List Int):List AFrame:=[(Zyo m g0 g1 xs)]
theorem Zwp(m g0 g1:Int)(xs:List Int):Zat tab 84 [AV.agg (Row.gen [.int .i64 m, .int .i64 g0, .int .i64 g1, .list (.ints .i64 xs)])]=some (Zyo m g0 g1 xs):=rfl
def ZyA(A:Ar)(K:KT)(F:FT)(m g0 g1:Int)(xs:List Int):Prop:=rB [Zaf (A.not (A.eq 2 0)) (A.inR .i64 (A.quo (A.int (A.len xs)) 2))] (F (AV.int .i64 (A.quo (A.int (A.len xs)) 2)) (none))
theorem ZCY{A:Ar}{K:KT}{F:FT}{M:MT}{m g0 g1:Int}{xs:List Int} :Zas A tab N0 84 K F M (.run 14 (.fn)) (ZE3 m g0 g1 xs) []=ZyA A K F m g0 g1 xs:=by kernel_rfl
def ZyB(m g0 g1:Int)(xs:List Int):AFrame:={ fn:=86,N:=7,env:=[(0,AV.agg (Row.gen [.int .i64 m, .int .i64 g0, .int .i64 g1, .list (.ints .i64 xs)]))],todo:=[.code a86.code],defs:=[],rnd:=none,ret:=false,res:=[ARes.tmp 2] }
def ZEW(m g0 g1:Int)(xs:List Int):List AFrame:=[(ZyB m g0 g1 xs)]
theorem Zwm(m g0 g1:Int)(xs:List Int):Zat tab 86 [AV.agg (Row.gen [.int .i64 m, .int .i64 g0, .int .i64 g1, .list (.ints .i64 xs)])]=some (ZyB m g0 g1 xs):=rfl
def ZBq(A:Ar)(K:KT)(F:FT)(m g0 g1:Int)(xs:List Int):Prop:=rB [Zaf (Zaf (A.le 0 m) (Nat.blt (A.nat m) 64)) (A.inR .i64 (A.shl 1 m))] (F (AV.int .i64 (A.shl 1 m)) (none))
theorem ZDp{A:Ar}{K:KT}{F:FT}{M:MT}{m g0 g1:Int}{xs:List Int} :Zas A tab N0 86 K F M (.run 14 (.fn)) (ZEW m g0 g1 xs) []=ZBq A K F m g0 g1 xs:=by kernel_rfl
end Go.Proofs.Ytklbmkllepkjcaa
/- Contracts as a list. No condition. -/
namespace Go.Proofs.Ytklbmkllepkjcaa
def Zax(n a b:Int):Bool:=decide (a≤n∧n≤b)
def ZaF:List Int→Int
 |[]=>0
 |x::xs=>if x=0 then ZaF xs else x
def Zap(b:Bool)(e:Int):Int:=if b=true then 0 else e
theorem ZhH{xs:List Int}{k:Nat}(h:k<xs.length):xs.drop k=xs.getD k 0::xs.drop (k+1):=by
 rw[List.drop_eq_getElem_cons h,List.getD_eq_getElem?_getD,List.getElem?_eq_getElem h];rfl
theorem Zge{α:Type}{xs:List α}{n:Nat}{d:α}(h:n<xs.length):xs.getD n d∈xs:=by
 rw[List.getD_eq_getElem?_getD,List.getElem?_eq_getElem h];exact List.getElem_mem h
def ZkY:List Int→List Int→Bool
 |x::xs,y::ys=>if x=y then ZkY xs ys else decide (x<y)
 |[],_::_=>true
 |_,[]=>false
def Zbc(xs:List Int):Bool:=xs.all fun x=>decide (x=0∨x=1)
section
variable {C:Ctx}(hC:C.P=Try.prog)
include hC
theorem ZjY(xs ys:List Int)(hl:xs.length≤1000000∧xs.length=ys.length):∀m k:Nat,k+m=xs.length→Ev C (Zg5 xs ys k) (Zfl xs ys k) (Zbe 17 (.bool (decide (xs.drop k=ys.drop k))) none)
 |0,k,hk=>tgo hC ZcB Zid (by
  rw[List.drop_of_length_le (by omega),List.drop_of_length_le (by omega)]
  simp[Zdu,show ¬(k:Int)<xs.length by omega])
 |m+1,k,hk=>by
  have ih:=ZjY xs ys hl m (k+1) (by omega)
  rw[ZhH (show k<xs.length by omega),ZhH (show k<ys.length by omega)]
  refine tgo hC ZcB Zid ?_
  by_cases h:xs.getD k 0=ys.getD k 0
  ·simp[-List.getD_eq_getElem?_getD,Zdu,show(k:Int)<xs.length by omega,show k<xs.length by omega,show k<ys.length by omega,h]
   exact⟨by omega,by simpa using ih⟩
  ·simp[-List.getD_eq_getElem?_getD,Zdu,show(k:Int)<xs.length by omega,show k<xs.length by omega,show k<ys.length by omega,h]
theorem Zf7(xs:List Int)(hl:xs.length≤1000000):∀m k:Nat,k+m=xs.length→Ev C (ZgQ xs xs.length k) (ZfN xs xs.length k) (Zbe 72 (.int .i64 (ZaF (xs.drop k))) none)
 |0,k,hk=>tgo hC ZcB ZiB (by
  rw[List.drop_of_length_le (by omega)]
  simp[Zdq,show ¬(k:Int)<xs.length by omega,ZaF])
 |m+1,k,hk=>by
  have ih:=Zf7 xs hl m (k+1) (by omega)
  have hlt:(k:Int)<xs.length:=by omega
  have hlt2:k<xs.length:=by omega
  rw[ZhH hlt2,ZaF]
  refine tgo hC ZcB ZiB ?_
  by_cases h:xs.getD k 0=0
  ·simp[-List.getD_eq_getElem?_getD,Zdq,hlt,hlt2,h]
   exact⟨by omega,by simpa using ih⟩
  ·simp[-List.getD_eq_getElem?_getD,Zdq,hlt,hlt2,h]
theorem Zkx(xs:List Int)(hl:xs.length≤1000000):∀m k:Nat,k+m=xs.length→Ev C (Zhn xs k) (Zfi xs k) (Zbe 33 (.bool (Zbc (xs.drop k))) none)
 |0,k,hk=>tgo hC ZcB ZhW (by
  rw[List.drop_of_length_le (by omega)]
  simp[ZcA,show ¬(k:Int)<xs.length by omega,Zbc])
 |m+1,k,hk=>by
  have ih:=Zkx xs hl m (k+1) (by omega)
  have hlt:(k:Int)<xs.length:=by omega
  have hlt2:k<xs.length:=by omega
  have e:Zbc (xs.drop k)=(decide (xs.getD k 0=0∨xs.getD k 0=1)&&Zbc (xs.drop (k+1))):=by rw[ZhH hlt2];rfl
  rw[e]
  refine tgo hC ZcB ZhW ?_
  by_cases h:xs.getD k 0=0
  ·simp[-List.getD_eq_getElem?_getD,ZcA,hlt,hlt2,h]
   exact⟨by omega,by simpa using ih⟩
  ·by_cases h1:xs.getD k 0=1
   ·simp[-List.getD_eq_getElem?_getD,ZcA,hlt,hlt2,h1]
    exact⟨by omega,by simpa using ih⟩
   ·simp[-List.getD_eq_getElem?_getD,ZcA,hlt,hlt2,h,h1]
theorem Zmi(xs ys:List Int)(hl:xs.length≤1000000):∀m k:Nat,k+m=xs.length→k≤ys.length→Ev C (ZgE xs ys k) (Zfm xs ys k) (Zbe 41 (.bool (ZkY (xs.drop k) (ys.drop k))) none)
 |0,k,hk,h2=>tgo hC ZcB ZhR (by
  rw[List.drop_of_length_le (show xs.length≤k by omega)]
  by_cases h:k<ys.length
  ·rw[ZhH h]
   simp[ZbQ,show ¬(k:Int)<xs.length by omega,ZkY];omega
  ·rw[List.drop_of_length_le (show ys.length≤k by omega)]
   simp[ZbQ,show ¬(k:Int)<xs.length by omega,ZkY];omega)
 |m+1,k,hk,h2=>by
  have hlt:(k:Int)<xs.length:=by omega
  have hlt2:k<xs.length:=by omega
  rw[ZhH hlt2]
  refine tgo hC ZcB ZhR ?_
  by_cases hy:k<ys.length
  ·have ih:=Zmi xs ys hl m (k+1) (by omega) (by omega)
   rw[ZhH hy,ZkY]
   by_cases h:xs.getD k 0=ys.getD k 0
   ·simp[-List.getD_eq_getElem?_getD,ZbQ,hlt,hlt2,hy,show(k:Int)<ys.length by omega,h]
    exact⟨by omega,by simpa using ih⟩
   ·simp[-List.getD_eq_getElem?_getD,ZbQ,hlt,hlt2,hy,show(k:Int)<ys.length by omega,h]
  ·rw[List.drop_of_length_le (show ys.length≤k by omega)]
   simp[-List.getD_eq_getElem?_getD,ZbQ,hlt,show ¬(k:Int)<ys.length by omega,ZkY];omega
end
theorem Zll(a b c:Int):Zah Try.prog 91 [.int .i64 a, .int .i64 b, .int .i64 c] (.bool (Zax a b c)) none:=
 start (Zvx a b c) fun C hC=>tgo hC ZcB ZDr (by by_cases h:b≤a<;>simp[ZyJ,h,Zax])
theorem Zlw(a b c:Int):Zah Try.prog 30 [.int .i64 a, .int .i64 b, .int .i64 c] (.bool (Zax a b c)) none:=
 start (Zve a b c) fun C hC=>tgo hC ZcB ZCM (by by_cases h:b≤a<;>simp[Zyk,h,Zax])
theorem Zla(b:Bool)(e:Int):Zah Try.prog 85 [.bool b, .int .i64 e] (.int .i64 (Zap b e)) none:=
 start (Zvd b e) fun C hC=>tgo hC ZcB ZC7 (by cases b<;>simp[Zzk,Zap])
theorem Znz(xs:List Int)(hl:xs.length≤1000000):Zah Try.prog 72 [.list (.ints .i64 xs)] (.int .i64 (ZaF xs)) none:=
 start (Zwj xs) fun C hC=>tgo hC ZcB ZCB (by
  have:=Zf7 hC xs hl xs.length 0 (by omega)
  simp[ZyF]
  simpa using this)
theorem Zj6(xs:List Int)(hl:xs.length≤1000000):Zah Try.prog 14 [.list (.ints .i64 xs)] (.row 0 0) (some ⟨3,1, .ints .i64 xs⟩):=
 start (ZwN xs) fun C hC=>tgo hC ZcB ZCR (by simp[ZzN];omega)
theorem ZoO(xs ys:List Int)(hl:xs.length≤1000000):Zah Try.prog 17 [.list (.ints .i64 xs), .list (.ints .i64 ys)] (.bool (decide (xs=ys))) none:=
 start (Zwg xs ys) fun C hC=>tgo hC ZcB ZDA (by
  by_cases h:xs.length=ys.length
  ·simp[ZvH,h]
   have:=ZjY hC xs ys ⟨hl,h⟩ xs.length 0 (by omega)
   simpa using this
  ·have:xs≠ys:=fun e=>h (by rw[e])
   simp[ZvH,this,show ¬((xs.length:Int)=ys.length) by omega])
theorem Zql(xs:List Int)(hl:xs.length≤1000000):Zah Try.prog 33 [.list (.ints .i64 xs)] (.bool (Zbc xs)) none:=
 start (Zv7 xs) fun C hC=>tgo hC ZcB ZDz (by
  have:=Zkx hC xs hl xs.length 0 (by omega)
  simp[ZA5]
  simpa using this)
theorem Ztg(xs ys:List Int)(hl:xs.length≤1000000):Zah Try.prog 41 [.list (.ints .i64 xs), .list (.ints .i64 ys)] (.bool (ZkY xs ys)) none:=
 start (ZuT xs ys) fun C hC=>tgo hC ZcB ZCI (by
  have:=Zmi hC xs ys hl xs.length 0 (by omega) (by omega)
  simp[ZyW]
  simpa using this)
def coI(a b:Int):Int:=if a=0 then b else -b
theorem Zw1(a b:Int)(h: -1000000≤b∧b≤1000000):Zah Try.prog 89 [.int .i64 a, .int .i64 b] (.int .i64 (coI a b)) none:=
 start (Zvc a b) fun C hC=>tgo hC ZcB ZDC (by
  by_cases h:a=0<;>simp[ZAT,h,coI];omega)
def k91:Ctr:=⟨91,0,fun _ a=>match a with |[.int .i64 a, .int .i64 b, .int .i64 c]=>some (true, .bool (Zax a b c),none) |_=>none⟩
theorem Zxv:k91.OK Try.prog:=fun pa args r fr h=>by
 simp only[k91]at h
 split at h
 ·cases h
  exact Zll _ _ _
 ·cases h
def k30:Ctr:=⟨30,0,fun _ a=>match a with |[.int .i64 a, .int .i64 b, .int .i64 c]=>some (true, .bool (Zax a b c),none) |_=>none⟩
theorem Zz0:k30.OK Try.prog:=fun pa args r fr h=>by
 simp only[k30]at h
 split at h
 ·cases h
  exact Zlw _ _ _
 ·cases h
def k85:Ctr:=⟨85,0,fun _ a=>match a with |[.bool b, .int .i64 e]=>some (true, .int .i64 (Zap b e),none) |_=>none⟩
theorem Zye:k85.OK Try.prog:=fun pa args r fr h=>by
 simp only[k85]at h
 split at h
 ·cases h
  exact Zla _ _
 ·cases h
def k72:Ctr:=⟨72,0,fun _ a=>match a with |[.list (.ints .i64 xs)]=>some (decide (xs.length≤1000000), .int .i64 (ZaF xs),none) |_=>none⟩
theorem ZzI:k72.OK Try.prog:=fun pa args r fr h=>by
 simp only[k72]at h
 split at h
 ·simp only[Option.some.injEq,Prod.mk.injEq,decide_eq_true_eq]at h
  obtain⟨h0,rfl,rfl⟩:=h
  exact Znz _ h0
 ·cases h
def k14:Ctr:=⟨14,0,fun _ a=>match a with |[.list (.ints .i64 xs)]=>some (decide (xs.length≤1000000), .row 0 0,some ⟨3,1, .ints .i64 xs⟩) |_=>none⟩
theorem ZxN:k14.OK Try.prog:=fun pa args r fr h=>by
 simp only[k14]at h
 split at h
 ·simp only[Option.some.injEq,Prod.mk.injEq,decide_eq_true_eq]at h
  obtain⟨h0,rfl,rfl⟩:=h
  exact Zj6 _ h0
 ·cases h
def k17:Ctr:=⟨17,0,fun _ a=>match a with |[.list (.ints .i64 xs), .list (.ints .i64 ys)]=>some (decide (xs.length≤1000000), .bool (decide (xs=ys)),none) |_=>none⟩
theorem Zx2:k17.OK Try.prog:=fun pa args r fr h=>by
 simp only[k17]at h
 split at h
 ·simp only[Option.some.injEq,Prod.mk.injEq,decide_eq_true_eq]at h
  obtain⟨h0,rfl,rfl⟩:=h
  exact ZoO _ _ h0
 ·cases h
def k33:Ctr:=⟨33,0,fun _ a=>match a with |[.list (.ints .i64 xs)]=>some (decide (xs.length≤1000000), .bool (Zbc xs),none) |_=>none⟩
theorem ZA7:k33.OK Try.prog:=fun pa args r fr h=>by
 simp only[k33]at h
 split at h
 ·simp only[Option.some.injEq,Prod.mk.injEq,decide_eq_true_eq]at h
  obtain⟨h0,rfl,rfl⟩:=h
  exact Zql _ h0
 ·cases h
def k41:Ctr:=⟨41,0,fun _ a=>match a with |[.list (.ints .i64 xs), .list (.ints .i64 ys)]=>some (decide (xs.length≤1000000), .bool (ZkY xs ys),none) |_=>none⟩
theorem Zya:k41.OK Try.prog:=fun pa args r fr h=>by
 simp only[k41]at h
 split at h
 ·simp only[Option.some.injEq,Prod.mk.injEq,decide_eq_true_eq]at h
  obtain⟨h0,rfl,rfl⟩:=h
  exact Ztg _ _ h0
 ·cases h
def k89:Ctr:=⟨89,0,fun _ a=>match a with |[.int .i64 a, .int .i64 b]=>some (decide (-1000000≤b∧b≤1000000), .int .i64 (coI a b),none) |_=>none⟩
theorem ZzM:k89.OK Try.prog:=fun pa args r fr h=>by
 simp only[k89]at h
 split at h
 ·simp only[Option.some.injEq,Prod.mk.injEq,decide_eq_true_eq]at h
  obtain⟨h0,rfl,rfl⟩:=h
  exact Zw1 _ _ h0
 ·cases h
def N1:List Ctr:=[k91,k30,k85,k72,k14,k17,k33,k41,k89]++N0
theorem Zkd:ZaP Try.prog N1:=⟨Zxv,⟨Zz0,⟨Zye,⟨ZzI,⟨ZxN,⟨Zx2,⟨ZA7,⟨Zya,⟨ZzM,ZcB⟩⟩⟩⟩⟩⟩⟩⟩⟩
end Go.Proofs.Ytklbmkllepkjcaa
/- Paths of functions, printed by the explorer (Gx). No condition. -/
namespace Go.Proofs.Ytklbmkllepkjcaa
set_option maxRecDepth 100000
set_option linter.unusedVariables false
def ZtK(n:Int):AFrame:={ fn:=113,N:=8,env:=[(0,AV.int .u64 n)],todo:=[.code a113.code],defs:=[],rnd:=none,ret:=false,res:=[ARes.tmp 2] }
def ZB0(n:Int):List AFrame:=[(ZtK n)]
theorem Zs6(n:Int):Zat tab 113 [AV.int .u64 n]=some (ZtK n):=rfl
def Zud(A:Ar)(K:KT)(F:FT)(n:Int):Prop:=rB [A.inR .i64 (A.add (A.add (A.add (A.bits Go.BinOp.and .u64 (A.add (A.shr (A.add (A.bits Go.BinOp.and .u64 (A.shr (A.add (A.bits Go.BinOp.and .u64 (A.shr n 1) 6148914691236517205) (A.bits Go.BinOp.and .u64 n 6148914691236517205)) 2) 3689348814741910323) (A.bits Go.BinOp.and .u64 (A.add (A.bits Go.BinOp.and .u64 (A.shr n 1) 6148914691236517205) (A.bits Go.BinOp.and .u64 n 6148914691236517205)) 3689348814741910323)) 4) (A.add (A.bits Go.BinOp.and .u64 (A.shr (A.add (A.bits Go.BinOp.and .u64 (A.shr n 1) 6148914691236517205) (A.bits Go.BinOp.and .u64 n 6148914691236517205)) 2) 3689348814741910323) (A.bits Go.BinOp.and .u64 (A.add (A.bits Go.BinOp.and .u64 (A.shr n 1) 6148914691236517205) (A.bits Go.BinOp.and .u64 n 6148914691236517205)) 3689348814741910323))) 1085102592571150095) (A.shr (A.bits Go.BinOp.and .u64 (A.add (A.shr (A.add (A.bits Go.BinOp.and .u64 (A.shr (A.add (A.bits Go.BinOp.and .u64 (A.shr n 1) 6148914691236517205) (A.bits Go.BinOp.and .u64 n 6148914691236517205)) 2) 3689348814741910323) (A.bits Go.BinOp.and .u64 (A.add (A.bits Go.BinOp.and .u64 (A.shr n 1) 6148914691236517205) (A.bits Go.BinOp.and .u64 n 6148914691236517205)) 3689348814741910323)) 4) (A.add (A.bits Go.BinOp.and .u64 (A.shr (A.add (A.bits Go.BinOp.and .u64 (A.shr n 1) 6148914691236517205) (A.bits Go.BinOp.and .u64 n 6148914691236517205)) 2) 3689348814741910323) (A.bits Go.BinOp.and .u64 (A.add (A.bits Go.BinOp.and .u64 (A.shr n 1) 6148914691236517205) (A.bits Go.BinOp.and .u64 n 6148914691236517205)) 3689348814741910323))) 1085102592571150095) 8)) (A.shr (A.add (A.bits Go.BinOp.and .u64 (A.add (A.shr (A.add (A.bits Go.BinOp.and .u64 (A.shr (A.add (A.bits Go.BinOp.and .u64 (A.shr n 1) 6148914691236517205) (A.bits Go.BinOp.and .u64 n 6148914691236517205)) 2) 3689348814741910323) (A.bits Go.BinOp.and .u64 (A.add (A.bits Go.BinOp.and .u64 (A.shr n 1) 6148914691236517205) (A.bits Go.BinOp.and .u64 n 6148914691236517205)) 3689348814741910323)) 4) (A.add (A.bits Go.BinOp.and .u64 (A.shr (A.add (A.bits Go.BinOp.and .u64 (A.shr n 1) 6148914691236517205) (A.bits Go.BinOp.and .u64 n 6148914691236517205)) 2) 3689348814741910323) (A.bits Go.BinOp.and .u64 (A.add (A.bits Go.BinOp.and .u64 (A.shr n 1) 6148914691236517205) (A.bits Go.BinOp.and .u64 n 6148914691236517205)) 3689348814741910323))) 1085102592571150095) (A.shr (A.bits Go.BinOp.and .u64 (A.add (A.shr (A.add (A.bits Go.BinOp.and .u64 (A.shr (A.add (A.bits Go.BinOp.and .u64 (A.shr n 1) 6148914691236517205) (A.bits Go.BinOp.and .u64 n 6148914691236517205)) 2) 3689348814741910323) (A.bits Go.BinOp.and .u64 (A.add (A.bits Go.BinOp.and .u64 (A.shr n 1) 6148914691236517205) (A.bits Go.BinOp.and .u64 n 6148914691236517205)) 3689348814741910323)) 4) (A.add (A.bits Go.BinOp.and .u64 (A.shr (A.add (A.bits Go.BinOp.and .u64 (A.shr n 1) 6148914691236517205) (A.bits Go.BinOp.and .u64 n 6148914691236517205)) 2) 3689348814741910323) (A.bits Go.BinOp.and .u64 (A.add (A.bits Go.BinOp.and .u64 (A.shr n 1) 6148914691236517205) (A.bits Go.BinOp.and .u64 n 6148914691236517205)) 3689348814741910323))) 1085102592571150095) 8)) 16)) (A.shr (A.add (A.add (A.bits Go.BinOp.and .u64 (A.add (A.shr (A.add (A.bits Go.BinOp.and .u64 (A.shr (A.add (A.bits Go.BinOp.and .u64 (A.shr n 1) 6148914691236517205) (A.bits Go.BinOp.and .u64 n 6148914691236517205)) 2) 3689348814741910323) (A.bits Go.BinOp.and .u64 (A.add (A.bits Go.BinOp.and .u64 (A.shr n 1) 6148914691236517205) (A.bits Go.BinOp.and .u64 n 6148914691236517205)) 3689348814741910323)) 4) (A.add (A.bits Go.BinOp.and .u64 (A.shr (A.add (A.bits Go.BinOp.and .u64 (A.shr n 1) 6148914691236517205) (A.bits Go.BinOp.and .u64 n 6148914691236517205)) 2) 3689348814741910323) (A.bits Go.BinOp.and .u64 (A.add (A.bits Go.BinOp.and .u64 (A.shr n 1) 6148914691236517205) (A.bits Go.BinOp.and .u64 n 6148914691236517205)) 3689348814741910323))) 1085102592571150095) (A.shr (A.bits Go.BinOp.and .u64 (A.add (A.shr (A.add (A.bits Go.BinOp.and .u64 (A.shr (A.add (A.bits Go.BinOp.and .u64 (A.shr n 1) 6148914691236517205) (A.bits Go.BinOp.and .u64 n 6148914691236517205)) 2) 3689348814741910323) (A.bits Go.BinOp.and .u64 (A.add (A.bits Go.BinOp.and .u64 (A.shr n 1) 6148914691236517205) (A.bits Go.BinOp.and .u64 n 6148914691236517205)) 3689348814741910323)) 4) (A.add (A.bits Go.BinOp.and .u64 (A.shr (A.add (A.bits Go.BinOp.and .u64 (A.shr n 1) 6148914691236517205) (A.bits Go.BinOp.and .u64 n 6148914691236517205)) 2) 3689348814741910323) (A.bits Go.BinOp.and .u64 (A.add (A.bits Go.BinOp.and .u64 (A.shr n 1) 6148914691236517205) (A.bits Go.BinOp.and .u64 n 6148914691236517205)) 3689348814741910323))) 1085102592571150095) 8)) (A.shr (A.add (A.bits Go.BinOp.and .u64 (A.add (A.shr (A.add (A.bits Go.BinOp.and .u64 (A.shr (A.add (A.bits Go.BinOp.and .u64 (A.shr n 1) 6148914691236517205) (A.bits Go.BinOp.and .u64 n 6148914691236517205)) 2) 3689348814741910323) (A.bits Go.BinOp.and .u64 (A.add (A.bits Go.BinOp.and .u64 (A.shr n 1) 6148914691236517205) (A.bits Go.BinOp.and .u64 n 6148914691236517205)) 3689348814741910323)) 4) (A.add (A.bits Go.BinOp.and .u64 (A.shr (A.add (A.bits Go.BinOp.and .u64 (A.shr n 1) 6148914691236517205) (A.bits Go.BinOp.and .u64 n 6148914691236517205)) 2) 3689348814741910323) (A.bits Go.BinOp.and .u64 (A.add (A.bits Go.BinOp.and .u64 (A.shr n 1) 6148914691236517205) (A.bits Go.BinOp.and .u64 n 6148914691236517205)) 3689348814741910323))) 1085102592571150095) (A.shr (A.bits Go.BinOp.and .u64 (A.add (A.shr (A.add (A.bits Go.BinOp.and .u64 (A.shr (A.add (A.bits Go.BinOp.and .u64 (A.shr n 1) 6148914691236517205) (A.bits Go.BinOp.and .u64 n 6148914691236517205)) 2) 3689348814741910323) (A.bits Go.BinOp.and .u64 (A.add (A.bits Go.BinOp.and .u64 (A.shr n 1) 6148914691236517205) (A.bits Go.BinOp.and .u64 n 6148914691236517205)) 3689348814741910323)) 4) (A.add (A.bits Go.BinOp.and .u64 (A.shr (A.add (A.bits Go.BinOp.and .u64 (A.shr n 1) 6148914691236517205) (A.bits Go.BinOp.and .u64 n 6148914691236517205)) 2) 3689348814741910323) (A.bits Go.BinOp.and .u64 (A.add (A.bits Go.BinOp.and .u64 (A.shr n 1) 6148914691236517205) (A.bits Go.BinOp.and .u64 n 6148914691236517205)) 3689348814741910323))) 1085102592571150095) 8)) 16)) 32)),A.inR .u64 (A.add (A.add (A.add (A.bits Go.BinOp.and .u64 (A.add (A.shr (A.add (A.bits Go.BinOp.and .u64 (A.shr (A.add (A.bits Go.BinOp.and .u64 (A.shr n 1) 6148914691236517205) (A.bits Go.BinOp.and .u64 n 6148914691236517205)) 2) 3689348814741910323) (A.bits Go.BinOp.and .u64 (A.add (A.bits Go.BinOp.and .u64 (A.shr n 1) 6148914691236517205) (A.bits Go.BinOp.and .u64 n 6148914691236517205)) 3689348814741910323)) 4) (A.add (A.bits Go.BinOp.and .u64 (A.shr (A.add (A.bits Go.BinOp.and .u64 (A.shr n 1) 6148914691236517205) (A.bits Go.BinOp.and .u64 n 6148914691236517205)) 2) 3689348814741910323) (A.bits Go.BinOp.and .u64 (A.add (A.bits Go.BinOp.and .u64 (A.shr n 1) 6148914691236517205) (A.bits Go.BinOp.and .u64 n 6148914691236517205)) 3689348814741910323))) 1085102592571150095) (A.shr (A.bits Go.BinOp.and .u64 (A.add (A.shr (A.add (A.bits Go.BinOp.and .u64 (A.shr (A.add (A.bits Go.BinOp.and .u64 (A.shr n 1) 6148914691236517205) (A.bits Go.BinOp.and .u64 n 6148914691236517205)) 2) 3689348814741910323) (A.bits Go.BinOp.and .u64 (A.add (A.bits Go.BinOp.and .u64 (A.shr n 1) 6148914691236517205) (A.bits Go.BinOp.and .u64 n 6148914691236517205)) 3689348814741910323)) 4) (A.add (A.bits Go.BinOp.and .u64 (A.shr (A.add (A.bits Go.BinOp.and .u64 (A.shr n 1) 6148914691236517205) (A.bits Go.BinOp.and .u64 n 6148914691236517205)) 2) 3689348814741910323) (A.bits Go.BinOp.and .u64 (A.add (A.bits Go.BinOp.and .u64 (A.shr n 1) 6148914691236517205) (A.bits Go.BinOp.and .u64 n 6148914691236517205)) 3689348814741910323))) 1085102592571150095) 8)) (A.shr (A.add (A.bits Go.BinOp.and .u64 (A.add (A.shr (A.add (A.bits Go.BinOp.and .u64 (A.shr (A.add (A.bits Go.BinOp.and .u64 (A.shr n 1) 6148914691236517205) (A.bits Go.BinOp.and .u64 n 6148914691236517205)) 2) 3689348814741910323) (A.bits Go.BinOp.and .u64 (A.add (A.bits Go.BinOp.and .u64 (A.shr n 1) 6148914691236517205) (A.bits Go.BinOp.and .u64 n 6148914691236517205)) 3689348814741910323)) 4) (A.add (A.bits Go.BinOp.and .u64 (A.shr (A.add (A.bits Go.BinOp.and .u64 (A.shr n 1) 6148914691236517205) (A.bits Go.BinOp.and .u64 n 6148914691236517205)) 2) 3689348814741910323) (A.bits Go.BinOp.and .u64 (A.add (A.bits Go.BinOp.and .u64 (A.shr n 1) 6148914691236517205) (A.bits Go.BinOp.and .u64 n 6148914691236517205)) 3689348814741910323))) 1085102592571150095) (A.shr (A.bits Go.BinOp.and .u64 (A.add (A.shr (A.add (A.bits Go.BinOp.and .u64 (A.shr (A.add (A.bits Go.BinOp.and .u64 (A.shr n 1) 6148914691236517205) (A.bits Go.BinOp.and .u64 n 6148914691236517205)) 2) 3689348814741910323) (A.bits Go.BinOp.and .u64 (A.add (A.bits Go.BinOp.and .u64 (A.shr n 1) 6148914691236517205) (A.bits Go.BinOp.and .u64 n 6148914691236517205)) 3689348814741910323)) 4) (A.add (A.bits Go.BinOp.and .u64 (A.shr (A.add (A.bits Go.BinOp.and .u64 (A.shr n 1) 6148914691236517205) (A.bits Go.BinOp.and .u64 n 6148914691236517205)) 2) 3689348814741910323) (A.bits Go.BinOp.and .u64 (A.add (A.bits Go.BinOp.and .u64 (A.shr n 1) 6148914691236517205) (A.bits Go.BinOp.and .u64 n 6148914691236517205)) 3689348814741910323))) 1085102592571150095) 8)) 16)) (A.shr (A.add (A.add (A.bits Go.BinOp.and .u64 (A.add (A.shr (A.add (A.bits Go.BinOp.and .u64 (A.shr (A.add (A.bits Go.BinOp.and .u64 (A.shr n 1) 6148914691236517205) (A.bits Go.BinOp.and .u64 n 6148914691236517205)) 2) 3689348814741910323) (A.bits Go.BinOp.and .u64 (A.add (A.bits Go.BinOp.and .u64 (A.shr n 1) 6148914691236517205) (A.bits Go.BinOp.and .u64 n 6148914691236517205)) 3689348814741910323)) 4) (A.add (A.bits Go.BinOp.and .u64 (A.shr (A.add (A.bits Go.BinOp.and .u64 (A.shr n 1) 6148914691236517205) (A.bits Go.BinOp.and .u64 n 6148914691236517205)) 2) 3689348814741910323) (A.bits Go.BinOp.and .u64 (A.add (A.bits Go.BinOp.and .u64 (A.shr n 1) 6148914691236517205) (A.bits Go.BinOp.and .u64 n 6148914691236517205)) 3689348814741910323))) 1085102592571150095) (A.shr (A.bits Go.BinOp.and .u64 (A.add (A.shr (A.add (A.bits Go.BinOp.and .u64 (A.shr (A.add (A.bits Go.BinOp.and .u64 (A.shr n 1) 6148914691236517205) (A.bits Go.BinOp.and .u64 n 6148914691236517205)) 2) 3689348814741910323) (A.bits Go.BinOp.and .u64 (A.add (A.bits Go.BinOp.and .u64 (A.shr n 1) 6148914691236517205) (A.bits Go.BinOp.and .u64 n 6148914691236517205)) 3689348814741910323)) 4) (A.add (A.bits Go.BinOp.and .u64 (A.shr (A.add (A.bits Go.BinOp.and .u64 (A.shr n 1) 6148914691236517205) (A.bits Go.BinOp.and .u64 n 6148914691236517205)) 2) 3689348814741910323) (A.bits Go.BinOp.and .u64 (A.add (A.bits Go.BinOp.and .u64 (A.shr n 1) 6148914691236517205) (A.bits Go.BinOp.and .u64 n 6148914691236517205)) 3689348814741910323))) 1085102592571150095) 8)) (A.shr (A.add (A.bits Go.BinOp.and .u64 (A.add (A.shr (A.add (A.bits Go.BinOp.and .u64 (A.shr (A.add (A.bits Go.BinOp.and .u64 (A.shr n 1) 6148914691236517205) (A.bits Go.BinOp.and .u64 n 6148914691236517205)) 2) 3689348814741910323) (A.bits Go.BinOp.and .u64 (A.add (A.bits Go.BinOp.and .u64 (A.shr n 1) 6148914691236517205) (A.bits Go.BinOp.and .u64 n 6148914691236517205)) 3689348814741910323)) 4) (A.add (A.bits Go.BinOp.and .u64 (A.shr (A.add (A.bits Go.BinOp.and .u64 (A.shr n 1) 6148914691236517205) (A.bits Go.BinOp.and .u64 n 6148914691236517205)) 2) 3689348814741910323) (A.bits Go.BinOp.and .u64 (A.add (A.bits Go.BinOp.and .u64 (A.shr n 1) 6148914691236517205) (A.bits Go.BinOp.and .u64 n 6148914691236517205)) 3689348814741910323))) 1085102592571150095) (A.shr (A.bits Go.BinOp.and .u64 (A.add (A.shr (A.add (A.bits Go.BinOp.and .u64 (A.shr (A.add (A.bits Go.BinOp.and .u64 (A.shr n 1) 6148914691236517205) (A.bits Go.BinOp.and .u64 n 6148914691236517205)) 2) 3689348814741910323) (A.bits Go.BinOp.and .u64 (A.add (A.bits Go.BinOp.and .u64 (A.shr n 1) 6148914691236517205) (A.bits Go.BinOp.and .u64 n 6148914691236517205)) 3689348814741910323)) 4) (A.add (A.bits Go.BinOp.and .u64 (A.shr (A.add (A.bits Go.BinOp.and .u64 (A.shr n 1) 6148914691236517205) (A.bits Go.BinOp.and .u64 n 6148914691236517205)) 2) 3689348814741910323) (A.bits Go.BinOp.and .u64 (A.add (A.bits Go.BinOp.and .u64 (A.shr n 1) 6148914691236517205) (A.bits Go.BinOp.and .u64 n 6148914691236517205)) 3689348814741910323))) 1085102592571150095) 8)) 16)) 32)),Zaf (A.le 0 32) (Nat.blt (A.nat 32) 64),A.inR .u64 (A.add (A.add (A.bits Go.BinOp.and .u64 (A.add (A.shr (A.add (A.bits Go.BinOp.and .u64 (A.shr (A.add (A.bits Go.BinOp.and .u64 (A.shr n 1) 6148914691236517205) (A.bits Go.BinOp.and .u64 n 6148914691236517205)) 2) 3689348814741910323) (A.bits Go.BinOp.and .u64 (A.add (A.bits Go.BinOp.and .u64 (A.shr n 1) 6148914691236517205) (A.bits Go.BinOp.and .u64 n 6148914691236517205)) 3689348814741910323)) 4) (A.add (A.bits Go.BinOp.and .u64 (A.shr (A.add (A.bits Go.BinOp.and .u64 (A.shr n 1) 6148914691236517205) (A.bits Go.BinOp.and .u64 n 6148914691236517205)) 2) 3689348814741910323) (A.bits Go.BinOp.and .u64 (A.add (A.bits Go.BinOp.and .u64 (A.shr n 1) 6148914691236517205) (A.bits Go.BinOp.and .u64 n 6148914691236517205)) 3689348814741910323))) 1085102592571150095) (A.shr (A.bits Go.BinOp.and .u64 (A.add (A.shr (A.add (A.bits Go.BinOp.and .u64 (A.shr (A.add (A.bits Go.BinOp.and .u64 (A.shr n 1) 6148914691236517205) (A.bits Go.BinOp.and .u64 n 6148914691236517205)) 2) 3689348814741910323) (A.bits Go.BinOp.and .u64 (A.add (A.bits Go.BinOp.and .u64 (A.shr n 1) 6148914691236517205) (A.bits Go.BinOp.and .u64 n 6148914691236517205)) 3689348814741910323)) 4) (A.add (A.bits Go.BinOp.and .u64 (A.shr (A.add (A.bits Go.BinOp.and .u64 (A.shr n 1) 6148914691236517205) (A.bits Go.BinOp.and .u64 n 6148914691236517205)) 2) 3689348814741910323) (A.bits Go.BinOp.and .u64 (A.add (A.bits Go.BinOp.and .u64 (A.shr n 1) 6148914691236517205) (A.bits Go.BinOp.and .u64 n 6148914691236517205)) 3689348814741910323))) 1085102592571150095) 8)) (A.shr (A.add (A.bits Go.BinOp.and .u64 (A.add (A.shr (A.add (A.bits Go.BinOp.and .u64 (A.shr (A.add (A.bits Go.BinOp.and .u64 (A.shr n 1) 6148914691236517205) (A.bits Go.BinOp.and .u64 n 6148914691236517205)) 2) 3689348814741910323) (A.bits Go.BinOp.and .u64 (A.add (A.bits Go.BinOp.and .u64 (A.shr n 1) 6148914691236517205) (A.bits Go.BinOp.and .u64 n 6148914691236517205)) 3689348814741910323)) 4) (A.add (A.bits Go.BinOp.and .u64 (A.shr (A.add (A.bits Go.BinOp.and .u64 (A.shr n 1) 6148914691236517205) (A.bits Go.BinOp.and .u64 n 6148914691236517205)) 2) 3689348814741910323) (A.bits Go.BinOp.and .u64 (A.add (A.bits Go.BinOp.and .u64 (A.shr n 1) 6148914691236517205) (A.bits Go.BinOp.and .u64 n 6148914691236517205)) 3689348814741910323))) 1085102592571150095) (A.shr (A.bits Go.BinOp.and .u64 (A.add (A.shr (A.add (A.bits Go.BinOp.and .u64 (A.shr (A.add (A.bits Go.BinOp.and .u64 (A.shr n 1) 6148914691236517205) (A.bits Go.BinOp.and .u64 n 6148914691236517205)) 2) 3689348814741910323) (A.bits Go.BinOp.and .u64 (A.add (A.bits Go.BinOp.and .u64 (A.shr n 1) 6148914691236517205) (A.bits Go.BinOp.and .u64 n 6148914691236517205)) 3689348814741910323)) 4) (A.add (A.bits Go.BinOp.and .u64 (A.shr (A.add (A.bits Go.BinOp.and .u64 (A.shr n 1) 6148914691236517205) (A.bits Go.BinOp.and .u64 n 6148914691236517205)) 2) 3689348814741910323) (A.bits Go.BinOp.and .u64 (A.add (A.bits Go.BinOp.and .u64 (A.shr n 1) 6148914691236517205) (A.bits Go.BinOp.and .u64 n 6148914691236517205)) 3689348814741910323))) 1085102592571150095) 8)) 16)),Zaf (A.le 0 16) (Nat.blt (A.nat 16) 64),A.inR .u64 (A.add (A.bits Go.BinOp.and .u64 (A.add (A.shr (A.add (A.bits Go.BinOp.and .u64 (A.shr (A.add (A.bits Go.BinOp.and .u64 (A.shr n 1) 6148914691236517205) (A.bits Go.BinOp.and .u64 n 6148914691236517205)) 2) 3689348814741910323) (A.bits Go.BinOp.and .u64 (A.add (A.bits Go.BinOp.and .u64 (A.shr n 1) 6148914691236517205) (A.bits Go.BinOp.and .u64 n 6148914691236517205)) 3689348814741910323)) 4) (A.add (A.bits Go.BinOp.and .u64 (A.shr (A.add (A.bits Go.BinOp.and .u64 (A.shr n 1) 6148914691236517205) (A.bits Go.BinOp.and .u64 n 6148914691236517205)) 2) 3689348814741910323) (A.bits Go.BinOp.and .u64 (A.add (A.bits Go.BinOp.and .u64 (A.shr n 1) 6148914691236517205) (A.bits Go.BinOp.and .u64 n 6148914691236517205)) 3689348814741910323))) 1085102592571150095) (A.shr (A.bits Go.BinOp.and .u64 (A.add (A.shr (A.add (A.bits Go.BinOp.and .u64 (A.shr (A.add (A.bits Go.BinOp.and .u64 (A.shr n 1) 6148914691236517205) (A.bits Go.BinOp.and .u64 n 6148914691236517205)) 2) 3689348814741910323) (A.bits Go.BinOp.and .u64 (A.add (A.bits Go.BinOp.and .u64 (A.shr n 1) 6148914691236517205) (A.bits Go.BinOp.and .u64 n 6148914691236517205)) 3689348814741910323)) 4) (A.add (A.bits Go.BinOp.and .u64 (A.shr (A.add (A.bits Go.BinOp.and .u64 (A.shr n 1) 6148914691236517205) (A.bits Go.BinOp.and .u64 n 6148914691236517205)) 2) 3689348814741910323) (A.bits Go.BinOp.and .u64 (A.add (A.bits Go.BinOp.and .u64 (A.shr n 1) 6148914691236517205) (A.bits Go.BinOp.and .u64 n 6148914691236517205)) 3689348814741910323))) 1085102592571150095) 8)),Zaf (A.le 0 8) (Nat.blt (A.nat 8) 64),A.inR .u64 (A.add (A.shr (A.add (A.bits Go.BinOp.and .u64 (A.shr (A.add (A.bits Go.BinOp.and .u64 (A.shr n 1) 6148914691236517205) (A.bits Go.BinOp.and .u64 n 6148914691236517205)) 2) 3689348814741910323) (A.bits Go.BinOp.and .u64 (A.add (A.bits Go.BinOp.and .u64 (A.shr n 1) 6148914691236517205) (A.bits Go.BinOp.and .u64 n 6148914691236517205)) 3689348814741910323)) 4) (A.add (A.bits Go.BinOp.and .u64 (A.shr (A.add (A.bits Go.BinOp.and .u64 (A.shr n 1) 6148914691236517205) (A.bits Go.BinOp.and .u64 n 6148914691236517205)) 2) 3689348814741910323) (A.bits Go.BinOp.and .u64 (A.add (A.bits Go.BinOp.and .u64 (A.shr n 1) 6148914691236517205) (A.bits Go.BinOp.and .u64 n 6148914691236517205)) 3689348814741910323))),Zaf (A.le 0 4) (Nat.blt (A.nat 4) 64),A.inR .u64 (A.add (A.bits Go.BinOp.and .u64 (A.shr (A.add (A.bits Go.BinOp.and .u64 (A.shr n 1) 6148914691236517205) (A.bits Go.BinOp.and .u64 n 6148914691236517205)) 2) 3689348814741910323) (A.bits Go.BinOp.and .u64 (A.add (A.bits Go.BinOp.and .u64 (A.shr n 1) 6148914691236517205) (A.bits Go.BinOp.and .u64 n 6148914691236517205)) 3689348814741910323)),Zaf (A.le 0 2) (Nat.blt (A.nat 2) 64),A.inR .u64 (A.add (A.bits Go.BinOp.and .u64 (A.shr n 1) 6148914691236517205) (A.bits Go.BinOp.and .u64 n 6148914691236517205)),Zaf (A.le 0 1) (Nat.blt (A.nat 1) 64)] (F (AV.int .i64 (A.bits Go.BinOp.and .i64 (A.add (A.add (A.add (A.bits Go.BinOp.and .u64 (A.add (A.shr (A.add (A.bits Go.BinOp.and .u64 (A.shr (A.add (A.bits Go.BinOp.and .u64 (A.shr n 1) 6148914691236517205) (A.bits Go.BinOp.and .u64 n 6148914691236517205)) 2) 3689348814741910323) (A.bits Go.BinOp.and .u64 (A.add (A.bits Go.BinOp.and .u64 (A.shr n 1) 6148914691236517205) (A.bits Go.BinOp.and .u64 n 6148914691236517205)) 3689348814741910323)) 4) (A.add (A.bits Go.BinOp.and .u64 (A.shr (A.add (A.bits Go.BinOp.and .u64 (A.shr n 1) 6148914691236517205) (A.bits Go.BinOp.and .u64 n 6148914691236517205)) 2) 3689348814741910323) (A.bits Go.BinOp.and .u64 (A.add (A.bits Go.BinOp.and .u64 (A.shr n 1) 6148914691236517205) (A.bits Go.BinOp.and .u64 n 6148914691236517205)) 3689348814741910323))) 1085102592571150095) (A.shr (A.bits Go.BinOp.and .u64 (A.add (A.shr (A.add (A.bits Go.BinOp.and .u64 (A.shr (A.add (A.bits Go.BinOp.and .u64 (A.shr n 1) 6148914691236517205) (A.bits Go.BinOp.and .u64 n 6148914691236517205)) 2) 3689348814741910323) (A.bits Go.BinOp.and .u64 (A.add (A.bits Go.BinOp.and .u64 (A.shr n 1) 6148914691236517205) (A.bits Go.BinOp.and .u64 n 6148914691236517205)) 3689348814741910323)) 4) (A.add (A.bits Go.BinOp.and .u64 (A.shr (A.add (A.bits Go.BinOp.and .u64 (A.shr n 1) 6148914691236517205) (A.bits Go.BinOp.and .u64 n 6148914691236517205)) 2) 3689348814741910323) (A.bits Go.BinOp.and .u64 (A.add (A.bits Go.BinOp.and .u64 (A.shr n 1) 6148914691236517205) (A.bits Go.BinOp.and .u64 n 6148914691236517205)) 3689348814741910323))) 1085102592571150095) 8)) (A.shr (A.add (A.bits Go.BinOp.and .u64 (A.add (A.shr (A.add (A.bits Go.BinOp.and .u64 (A.shr (A.add (A.bits Go.BinOp.and .u64 (A.shr n 1) 6148914691236517205) (A.bits Go.BinOp.and .u64 n 6148914691236517205)) 2) 3689348814741910323) (A.bits Go.BinOp.and .u64 (A.add (A.bits Go.BinOp.and .u64 (A.shr n 1) 6148914691236517205) (A.bits Go.BinOp.and .u64 n 6148914691236517205)) 3689348814741910323)) 4) (A.add (A.bits Go.BinOp.and .u64 (A.shr (A.add (A.bits Go.BinOp.and .u64 (A.shr n 1) 6148914691236517205) (A.bits Go.BinOp.and .u64 n 6148914691236517205)) 2) 3689348814741910323) (A.bits Go.BinOp.and .u64 (A.add (A.bits Go.BinOp.and .u64 (A.shr n 1) 6148914691236517205) (A.bits Go.BinOp.and .u64 n 6148914691236517205)) 3689348814741910323))) 1085102592571150095) (A.shr (A.bits Go.BinOp.and .u64 (A.add (A.shr (A.add (A.bits Go.BinOp.and .u64 (A.shr (A.add (A.bits Go.BinOp.and .u64 (A.shr n 1) 6148914691236517205) (A.bits Go.BinOp.and .u64 n 6148914691236517205)) 2) 3689348814741910323) (A.bits Go.BinOp.and .u64 (A.add (A.bits Go.BinOp.and .u64 (A.shr n 1) 6148914691236517205) (A.bits Go.BinOp.and .u64 n 6148914691236517205)) 3689348814741910323)) 4) (A.add (A.bits Go.BinOp.and .u64 (A.shr (A.add (A.bits Go.BinOp.and .u64 (A.shr n 1) 6148914691236517205) (A.bits Go.BinOp.and .u64 n 6148914691236517205)) 2) 3689348814741910323) (A.bits Go.BinOp.and .u64 (A.add (A.bits Go.BinOp.and .u64 (A.shr n 1) 6148914691236517205) (A.bits Go.BinOp.and .u64 n 6148914691236517205)) 3689348814741910323))) 1085102592571150095) 8)) 16)) (A.shr (A.add (A.add (A.bits Go.BinOp.and .u64 (A.add (A.shr (A.add (A.bits Go.BinOp.and .u64 (A.shr (A.add (A.bits Go.BinOp.and .u64 (A.shr n 1) 6148914691236517205) (A.bits Go.BinOp.and .u64 n 6148914691236517205)) 2) 3689348814741910323) (A.bits Go.BinOp.and .u64 (A.add (A.bits Go.BinOp.and .u64 (A.shr n 1) 6148914691236517205) (A.bits Go.BinOp.and .u64 n 6148914691236517205)) 3689348814741910323)) 4) (A.add (A.bits Go.BinOp.and .u64 (A.shr (A.add (A.bits Go.BinOp.and .u64 (A.shr n 1) 6148914691236517205) (A.bits Go.BinOp.and .u64 n 6148914691236517205)) 2) 3689348814741910323) (A.bits Go.BinOp.and .u64 (A.add (A.bits Go.BinOp.and .u64 (A.shr n 1) 6148914691236517205) (A.bits Go.BinOp.and .u64 n 6148914691236517205)) 3689348814741910323))) 1085102592571150095) (A.shr (A.bits Go.BinOp.and .u64 (A.add (A.shr (A.add (A.bits Go.BinOp.and .u64 (A.shr (A.add (A.bits Go.BinOp.and .u64 (A.shr n 1) 6148914691236517205) (A.bits Go.BinOp.and .u64 n 6148914691236517205)) 2) 3689348814741910323) (A.bits Go.BinOp.and .u64 (A.add (A.bits Go.BinOp.and .u64 (A.shr n 1) 6148914691236517205) (A.bits Go.BinOp.and .u64 n 6148914691236517205)) 3689348814741910323)) 4) (A.add (A.bits Go.BinOp.and .u64 (A.shr (A.add (A.bits Go.BinOp.and .u64 (A.shr n 1) 6148914691236517205) (A.bits Go.BinOp.and .u64 n 6148914691236517205)) 2) 3689348814741910323) (A.bits Go.BinOp.and .u64 (A.add (A.bits Go.BinOp.and .u64 (A.shr n 1) 6148914691236517205) (A.bits Go.BinOp.and .u64 n 6148914691236517205)) 3689348814741910323))) 1085102592571150095) 8)) (A.shr (A.add (A.bits Go.BinOp.and .u64 (A.add (A.shr (A.add (A.bits Go.BinOp.and .u64 (A.shr (A.add (A.bits Go.BinOp.and .u64 (A.shr n 1) 6148914691236517205) (A.bits Go.BinOp.and .u64 n 6148914691236517205)) 2) 3689348814741910323) (A.bits Go.BinOp.and .u64 (A.add (A.bits Go.BinOp.and .u64 (A.shr n 1) 6148914691236517205) (A.bits Go.BinOp.and .u64 n 6148914691236517205)) 3689348814741910323)) 4) (A.add (A.bits Go.BinOp.and .u64 (A.shr (A.add (A.bits Go.BinOp.and .u64 (A.shr n 1) 6148914691236517205) (A.bits Go.BinOp.and .u64 n 6148914691236517205)) 2) 3689348814741910323) (A.bits Go.BinOp.and .u64 (A.add (A.bits Go.BinOp.and .u64 (A.shr n 1) 6148914691236517205) (A.bits Go.BinOp.and .u64 n 6148914691236517205)) 3689348814741910323))) 1085102592571150095) (A.shr (A.bits Go.BinOp.and .u64 (A.add (A.shr (A.add (A.bits Go.BinOp.and .u64 (A.shr (A.add (A.bits Go.BinOp.and .u64 (A.shr n 1) 6148914691236517205) (A.bits Go.BinOp.and .u64 n 6148914691236517205)) 2) 3689348814741910323) (A.bits Go.BinOp.and .u64 (A.add (A.bits Go.BinOp.and .u64 (A.shr n 1) 6148914691236517205) (A.bits Go.BinOp.and .u64 n 6148914691236517205)) 3689348814741910323)) 4) (A.add (A.bits Go.BinOp.and .u64 (A.shr (A.add (A.bits Go.BinOp.and .u64 (A.shr n 1) 6148914691236517205) (A.bits Go.BinOp.and .u64 n 6148914691236517205)) 2) 3689348814741910323) (A.bits Go.BinOp.and .u64 (A.add (A.bits Go.BinOp.and .u64 (A.shr n 1) 6148914691236517205) (A.bits Go.BinOp.and .u64 n 6148914691236517205)) 3689348814741910323))) 1085102592571150095) 8)) 16)) 32)) 127)) (none))
theorem ZxG{A:Ar}{K:KT}{F:FT}{M:MT}{n:Int} :Zas A tab N1 113 K F M (.run 5 (.fy (.run 76 (.fn)))) (ZB0 n) []=Zud A K F n:=by kernel_rfl
def Zzn(xs:List Int)(lo hi:Int):AFrame:={ fn:=70,N:=14,env:=[(0,AV.list (.ints .i64 xs)),(1,AV.int .i64 lo),(2,AV.int .i64 hi)],todo:=[.code a70.code],defs:=[],rnd:=none,ret:=false,res:=[ARes.tmp 6] }
def ZES(xs:List Int)(lo hi:Int):List AFrame:=[(Zzn xs lo hi)]
theorem Zvf(xs:List Int)(lo hi:Int):Zat tab 70 [AV.list (.ints .i64 xs),AV.int .i64 lo,AV.int .i64 hi]=some (Zzn xs lo hi):=rfl
def ZfL(xs:List Int)(lo hi n0 n1:Int):List AFrame:=[{ fn:=123,N:=19,env:=[(0,AV.list (.ints .i64 xs)),(1,AV.fn 111 [AV.ptr 70005 0 0 0,AV.ptr 70006 0 0 0]),(7,AV.int .i64 n0),(8,AV.int .i64 n1)],todo:=.code (ACode.gh [] ZtO)::ZAE,defs:=[],rnd:=none,ret:=false,res:=[ARes.tmp 4] },{ fn:=110,N:=9,env:=[(0,AV.list (.ints .i64 xs)),(1,AV.fn 111 [AV.ptr 70005 0 0 0,AV.ptr 70006 0 0 0]),(4,AV.bool false),(5,AV.list (.ints .i64 xs)),(6,AV.fn 111 [AV.ptr 70005 0 0 0,AV.ptr 70006 0 0 0])],todo:=[AItem.inReg [oN 7 (OpK.ncall true 0 123 [Opd.t 5,Opd.t 6]),oN 8 (OpK.bin Go.BinOp.geq (Opd.t 7) (cI 0)),mV 4 8], .code ACode.ret],defs:=[],rnd:=none,ret:=false,res:=[ARes.tmp 4] },{ fn:=70,N:=14,env:=[(0,AV.list (.ints .i64 xs)),(1,AV.int .i64 lo),(2,AV.int .i64 hi),(4,AV.ptr 70005 0 0 0),(5,AV.ptr 70006 0 0 0),(6,AV.int .i64 0),(8,AV.list (.ints .i64 xs)),(9,AV.fn 111 [AV.ptr 70005 0 0 0,AV.ptr 70006 0 0 0])],todo:=[AItem.inReg [oN 10 (OpK.ncall true 0 110 [Opd.t 8,Opd.t 9]),mV 7 10], .code (ACode.seq (ACode.reg none [mV 11 7,oN 12 (OpK.not (Opd.t 11)),oN 13 (OpK.ncall true 0 85 [Opd.t 12,cI 2]),mV 6 13]) ACode.ret)],defs:=[],rnd:=none,ret:=false,res:=[ARes.tmp 6] }]
def Zei(xs:List Int)(lo hi n0 n1:Int):Zac:=[(70005,{ base:=0,blks:=[Blk.row 3 1 (Row.gen [.int .i64 lo])] }),(70006,{ base:=0,blks:=[Blk.row 3 1 (Row.gen [.int .i64 hi])] })]
abbrev Zhq(xs:List Int)(lo hi n0 n1:Int):List AFrame×Zac:=(ZfL xs lo hi n0 n1,Zei xs lo hi n0 n1)
def ZxV(A:Ar)(K:KT)(F:FT)(xs:List Int)(lo hi:Int):Prop:=K (Zhq (xs) (lo) (hi) (A.int (A.len xs)) (0))
theorem ZB7{A:Ar}{K:KT}{F:FT}{M:MT}{xs:List Int}{lo hi:Int} :Zas A tab N1 70 K F M (.run 34 (.hd)) (ZES xs lo hi) []=ZxV A K F xs lo hi:=by kernel_rfl
def ZcK(A:Ar)(K:KT)(F:FT)(xs:List Int)(lo hi n0 n1:Int):Prop:=bB (A.lt n1 n0) (rB [Zaf (Zaf (A.le 0 n1) (Nat.blt (A.nat n1) (A.len xs))) true] (bB (A.not (Zax (A.nth xs (A.nat n1)) lo hi)) (F (AV.int .i64 (Zap (A.not (A.le 0 n1)) 2)) (none)) (rB [A.inR .i64 (A.add n1 1)] (K (Zhq (xs) (lo) (hi) (n0) (A.add n1 1)))))) (F (AV.int .i64 (Zap (A.not (A.le 0 (-1))) 2)) (none))
theorem ZgM{A:Ar}{K:KT}{F:FT}{M:MT}{xs:List Int}{lo hi n0 n1:Int} :Zas A tab N1 70 K F M (.run 6 (.tf (.run 32 (.tf (.run 22 (.fn)) (.run 8 (.hd)))) (.run 22 (.fn)))) (ZfL xs lo hi n0 n1) (Zei xs lo hi n0 n1)=ZcK A K F xs lo hi n0 n1:=by kernel_rfl
def ZxL(xs:List Int):AFrame:={ fn:=55,N:=16,env:=[(0,AV.list (.ints .i64 xs))],todo:=[.code a55.code],defs:=[],rnd:=none,ret:=false,res:=[ARes.tmp 2] }
def ZFX(xs:List Int):List AFrame:=[(ZxL xs)]
theorem Zwv(xs:List Int):Zat tab 55 [AV.list (.ints .i64 xs)]=some (ZxL xs):=rfl
def ZhE(xs:List Int)(n0:Int):List AFrame:=[{ fn:=55,N:=16,env:=[(0,AV.list (.ints .i64 xs)),(3,AV.int .i64 n0)],todo:=.code (ACode.gh [] ZxS)::ZCt,defs:=[],rnd:=none,ret:=false,res:=[ARes.tmp 2] }]
def ZfS(xs:List Int)(n0:Int):Zac:=[]
abbrev ZiT(xs:List Int)(n0:Int):List AFrame×Zac:=(ZhE xs n0,ZfS xs n0)
def ZBA(A:Ar)(K:KT)(F:FT)(xs:List Int):Prop:=K (ZiT (xs) (0))
theorem ZBZ{A:Ar}{K:KT}{F:FT}{M:MT}{xs:List Int} :Zas A tab N1 55 K F M (.run 12 (.hd)) (ZFX xs) []=ZBA A K F xs:=by kernel_rfl
def Zdr(A:Ar)(K:KT)(F:FT)(xs:List Int)(n0:Int):Prop:=bB (A.lt n0 (A.int (A.len xs))) (rB [Zaf (Zaf (A.le 0 n0) (Nat.blt (A.nat n0) (A.len xs))) true] (bB (A.not (Zax (A.nth xs (A.nat n0)) (-7) 7)) (F (AV.int .i64 2) (none)) (rB [A.inR .i64 (A.add n0 1)] (K (ZiT (xs) (A.add n0 1)))))) (F (AV.int .i64 0) (none))
theorem Zio{A:Ar}{K:KT}{F:FT}{M:MT}{xs:List Int}{n0:Int} :Zas A tab N1 55 K F M (.run 9 (.tf (.run 12 (.tf (.run 5 (.fn)) (.run 9 (.hd)))) (.run 6 (.fn)))) (ZhE xs n0) (ZfS xs n0)=Zdr A K F xs n0:=by kernel_rfl
end Go.Proofs.Ytklbmkllepkjcaa
/- Contracts as a list. No condition. -/
namespace Go.Proofs.Ytklbmkllepkjcaa
theorem Rel.sameA{w:World}{ok:Nat→Prop}{h:Zac}{L:Lay}{r r':Row}{v:Value}(he:r.elems=r'.elems)(hr:Rel w ok h L (.agg r) v):Rel w ok h L (.agg r') v:=by
 cases hr with
 |agg _ xs hx vs hl h1 hrr=>exact .agg r' xs (hx.trans he) vs hl h1 hrr
theorem Zc7{f:FuncId}{xs ys:List AV}{r r':Row}{x:AV}{fr:Option Fresh}(h:Zah Try.prog f (xs++ .agg r::ys) x fr)(he:r'.elems=r.elems):Zah Try.prog f (xs++ .agg r'::ys) x fr:=by
 intro w okA L vs hargs hok hG
 refine h w okA L vs ⟨by have:=hargs.1;simpa using this,fun j u v hu hv=>?_⟩ hok hG
 rcases Nat.lt_trichotomy j xs.length with hj |hj |hj
 ·rw[List.getElem?_append_left hj]at hu
  exact hargs.2 j u v (by rw[List.getElem?_append_left hj];exact hu) hv
 ·subst hj
  rw[List.getElem?_append_right (Nat.le_refl _)]at hu
  simp only[Nat.sub_self,List.getElem?_cons_zero,Option.some.injEq]at hu
  subst hu
  exact Rel.sameA he (hargs.2 _ _ v (by rw[List.getElem?_append_right (Nat.le_refl _)];simp) hv)
 ·rw[List.getElem?_append_right (by omega),show j-xs.length=(j-xs.length-1)+1 by omega,List.getElem?_cons_succ]at hu
  exact hargs.2 j u v (by rw[List.getElem?_append_right (by omega),show j-xs.length=(j-xs.length-1)+1 by omega,List.getElem?_cons_succ];exact hu) hv
def Zxp(x:Nat):Nat:=x%2+x/2%2+x/4%2+x/8%2
def ZDX(r k:Int):Int:=((Zxp (r.toNat &&& k.toNat)%2:Nat):Int)
theorem Zmp(r k:Nat)(hr:r≤15)(hk:k≤15):std.bits .and .i64 (r:Int) (k:Int)=((r &&& k:Nat):Int):=by
 have h1:∀m:Nat,m≤15→(BitVec.ofInt 64 (m:Int)).toNat=m:=fun m hm=>by
  rw[BitVec.ofInt_natCast,BitVec.toNat_ofNat];exact Nat.mod_eq_of_lt (by omega)
 show IntKind.i64.wrap ((BitVec.ofInt 64 (r:Int) &&& BitVec.ofInt 64 (k:Int)).toNat:Int)=_
 rw[BitVec.toNat_and,h1 r hr,h1 k hk]
 have:= @Nat.and_le_left r k
 rw[IntKind.wrap_i64]
 omega
theorem Zp5:∀ {l:List Bool},l.all (fun b=>b)=true→AllT l
 |[],_=>trivial
 |b::l,h=>by
  simp only[List.all_cons,Bool.and_eq_true]at h
  exact⟨h.1,Zp5 h.2⟩
theorem Zn5(x:Int)(h:0≤x∧x≤15):Zah Try.prog 113 [.int .u64 x] (.int .i64 ((Zxp x.toNat:Nat):Int)) none:=by
 have:x=0∨x=1∨x=2∨x=3∨x=4∨x=5∨x=6∨x=7∨x=8∨x=9∨x=10∨x=11∨x=12∨x=13∨x=14∨x=15:=by omega
 rcases this with rfl |rfl |rfl |rfl |rfl |rfl |rfl |rfl |rfl |rfl |rfl |rfl |rfl |rfl |rfl |rfl<;>
  exact start (Zs6 _) fun C hC=>tgo hC Zkd ZxG (by
   simp only[Zud,ZCr]
   exact⟨Zp5 (by kernel_rfl),by kernel_rfl,trivial⟩)
def ZbB(xs:List Int)(lo hi:Int):Int:=if xs.all (fun x=>Zax x lo hi)=true then 0 else 2
theorem ZkI{xs:List Int}{k:Nat}(lo hi:Int)(h:k<xs.length):ZbB (xs.drop k) lo hi=if Zax (xs.getD k 0) lo hi=true then ZbB (xs.drop (k+1)) lo hi else 2:=by
 rw[ZhH h]
 unfold ZbB
 cases hw:Zax (xs.getD k 0) lo hi<;>simp[-List.getD_eq_getElem?_getD,List.all_cons,hw]
section
variable {C:Ctx}(hC:C.P=Try.prog)
include hC
theorem Zno(xs:List Int)(lo hi:Int)(hl:xs.length≤1000000):∀m k:Nat,k+m=xs.length→Ev C (ZfL xs lo hi xs.length k) (Zei xs lo hi xs.length k) (Zbe 70 (.int .i64 (ZbB (xs.drop k) lo hi)) none)
 |0,k,hk=>tgo hC Zkd ZgM (by
  rw[List.drop_of_length_le (by omega)]
  simp[ZcK,show ¬(k:Int)<xs.length by omega,ZbB,Zap])
 |m+1,k,hk=>by
  have ih:=Zno xs lo hi hl m (k+1) (by omega)
  have hlt:(k:Int)<xs.length:=by omega
  have hlt2:k<xs.length:=by omega
  rw[ZkI lo hi hlt2]
  refine tgo hC Zkd ZgM ?_
  cases hw:Zax (xs.getD k 0) lo hi with
  |true=>
   simp[-List.getD_eq_getElem?_getD,ZcK,hlt,hlt2,hw]
   exact⟨by omega,by simpa using ih⟩
  |false=>simp[-List.getD_eq_getElem?_getD,ZcK,hlt,hlt2,hw,Zap]
theorem Zkz(xs:List Int)(hl:xs.length≤1000000):∀m k:Nat,k+m=xs.length→Ev C (ZhE xs k) (ZfS xs k) (Zbe 55 (.int .i64 (ZbB (xs.drop k) (-7) 7)) none)
 |0,k,hk=>tgo hC Zkd Zio (by
  rw[List.drop_of_length_le (by omega)]
  simp[Zdr,show ¬(k:Int)<xs.length by omega,ZbB])
 |m+1,k,hk=>by
  have ih:=Zkz xs hl m (k+1) (by omega)
  have hlt:(k:Int)<xs.length:=by omega
  have hlt2:k<xs.length:=by omega
  rw[ZkI _ _ hlt2]
  refine tgo hC Zkd Zio ?_
  cases hw:Zax (xs.getD k 0) (-7) 7 with
  |true=>
   simp[-List.getD_eq_getElem?_getD,Zdr,hlt,hlt2,hw]
   exact⟨by omega,by simpa using ih⟩
  |false=>simp[-List.getD_eq_getElem?_getD,Zdr,hlt,hlt2,hw]
end
theorem Zrc(xs:List Int)(lo hi:Int)(hl:xs.length≤1000000):Zah Try.prog 70 [.list (.ints .i64 xs), .int .i64 lo, .int .i64 hi] (.int .i64 (ZbB xs lo hi)) none:=
 start (Zvf xs lo hi) fun C hC=>tgo hC Zkd ZB7 (by
  have:=Zno hC xs lo hi hl xs.length 0 (by omega)
  simp[ZxV]
  simpa using this)
theorem ZqJ(xs:List Int)(hl:xs.length≤1000000):Zah Try.prog 55 [.list (.ints .i64 xs)] (.int .i64 (ZbB xs (-7) 7)) none:=
 start (Zwv xs) fun C hC=>tgo hC Zkd ZBZ (by
  have:=Zkz hC xs hl xs.length 0 (by omega)
  simp[ZBA]
  simpa using this)
def stN(m:Int):Int:=2^m.toNat
def ZcQ(m:Int):Bool:=decide (1≤m∧m≤3)
theorem ZiE{m:Int}(h:1≤m∧m≤3):stN m=2∨stN m=4∨stN m=8:=by
 have:m=1∨m=2∨m=3:=by omega
 rcases this with rfl |rfl |rfl<;>simp[stN]
def k113:Ctr:=⟨113,0,fun _ a=>match a with |[.int .u64 x]=>some (decide (0≤x∧x≤15), .int .i64 ((Zxp x.toNat:Nat):Int),none) |_=>none⟩
theorem ZvD:k113.OK Try.prog:=fun pa args r fr h=>by
 simp only[k113]at h
 split at h
 ·simp only[Option.some.injEq,Prod.mk.injEq,decide_eq_true_eq]at h
  obtain⟨h0,rfl,rfl⟩:=h
  exact Zn5 _ h0
 ·cases h
def k70:Ctr:=⟨70,0,fun _ a=>match a with |[.list (.ints .i64 xs), .int .i64 lo, .int .i64 hi]=>some (decide (xs.length≤1000000), .int .i64 (ZbB xs lo hi),none) |_=>none⟩
theorem Zxz:k70.OK Try.prog:=fun pa args r fr h=>by
 simp only[k70]at h
 split at h
 ·simp only[Option.some.injEq,Prod.mk.injEq,decide_eq_true_eq]at h
  obtain⟨h0,rfl,rfl⟩:=h
  exact Zrc _ _ _ h0
 ·cases h
def k55:Ctr:=⟨55,0,fun _ a=>match a with |[.list (.ints .i64 xs)]=>some (decide (xs.length≤1000000), .int .i64 (ZbB xs (-7) 7),none) |_=>none⟩
theorem ZxR:k55.OK Try.prog:=fun pa args r fr h=>by
 simp only[k55]at h
 split at h
 ·simp only[Option.some.injEq,Prod.mk.injEq,decide_eq_true_eq]at h
  obtain⟨h0,rfl,rfl⟩:=h
  exact ZqJ _ h0
 ·cases h
def N2:List Ctr:=[k113,k70,k55]++N1
theorem ZhC:ZaP Try.prog N2:=⟨ZvD,⟨Zxz,⟨ZxR,Zkd⟩⟩⟩
end Go.Proofs.Ytklbmkllepkjcaa
