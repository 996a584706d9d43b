/- Arguments' readings, of whatever type of plain cells and slices. No condition. -/
import Derived.Test.YtkeoeooghhjibaaGreatDoorW1
import Derived.Deep.Slices
namespace Go.Proofs.YtkeoeooghhjibaaGreatDoor
open Go.ChangeShapes Go.WideShapes Go.ChangeAt Go.RowKit Go.Deep
def Ztp(P:Program)(f:TypeId→Option (List Sh)):Nat→List Field→Option (List Sh)
 |_,[]=>some []
 |off,fd::fds=>match fd.offset==off,f fd.type with
  |true,some l=>(match P.cellsOf fd.type==l.length,Ztp P f (off+l.length) fds with
   |true,some r=>some (l++r)
   |_,_=>none)
  |_,_=>none
def ZBB(ag:Bool)(l:List Sh):Option Sh:=match ag,l with
 |_,[]=>none
 |true,s::ss=>some (.agg (s::ss))
 |false,[s]=>some s
 |false,_=>none
def ZGc:Sh→Sh
 | .int k=>.ints k
 |s=>.big s
def ZLN(P:Program)(f:TypeId→Option (List Sh)):TypeDesc→Option (List Sh)
 | .int k=>some [.int k]
 | .bool=>some [.bool]
 | .string=>some [.str]
 | .struct fs=>Ztp P f 0 fs.toList
 | .array n e=>match f e with
   |some l=>(match P.cellsOf e==l.length with |true=>some (List.replicate n l).flatten |false=>none)
   |none=>none
 | .slice e=>match f e,P.underlying e with
   |some l,some de=>(match P.cellsOf e==l.length,ZBB (Zba de) l with |true,some s=>some [ZGc s] |_,_=>none)
   |_,_=>none
 |_=>none
def ZvQ(P:Program):Nat→TypeId→Option (List Sh)
 |0,_=>none
 |d+1,t=>match P.underlying t with
  |some td=>(match ZLN P (ZvQ P d) td with
   |some l=>(match P.cellsOf t==l.length with |true=>some l |false=>none)
   |none=>none)
  |none=>none
def wfV:AV→Prop
 | .int k n=>(Lit.int k n).wf=true
 | .list (.ints k l)=>∀x∈l,(Lit.int k x).wf=true
 |_=>True
def Sh.leaf:Sh→Bool
 | .agg _=>false
 |_=>true
def Cf(s:Sh)(u:AV):Prop:=(∃a,u=s.view1 a)∧wfV u∧s.leaf=true
def Cfs(ss:List Sh)(us:zA):Prop:=us.length=ss.length∧∀(j:Nat) (s:Sh) (u:AV),ss[j]? =some s→us[j]? =some u→Cf s u
def Rd(W:World)(L:Lay)(ss:List Sh)(cs:List Value):Prop:=∃us:zA,RelL W (ZmV W) [] L us cs∧(∀c∈cs,c.oneCell'=true)∧Cfs ss us
section
variable {H:Type}{enc:TypeId×Value→H}{P:Program}{W:World}{L:Lay}
theorem Cfs.app{s1 s2:List Sh}{u1 u2:zA}(h1:Cfs s1 u1)(h2:Cfs s2 u2):Cfs (s1++s2) (u1++u2):=by
 refine⟨by simp[h1.1,h2.1],fun j s u hs hu=>?_⟩
 by_cases hj:j<s1.length
 ·rw[List.getElem?_append_left hj]at hs
  rw[List.getElem?_append_left (by rw[h1.1];exact hj)]at hu
  exact h1.2 j s u hs hu
 ·rw[List.getElem?_append_right (by omega)]at hs
  rw[List.getElem?_append_right (by rw[h1.1];omega),h1.1]at hu
  exact h2.2 _ s u hs hu
theorem Rd.app{s1 s2:List Sh}{c1 c2:List Value}(h1:Rd W L s1 c1)(h2:Rd W L s2 c2):Rd W L (s1++s2) (c1++c2):=by
 obtain⟨u1,r1,o1,f1⟩:=h1
 obtain⟨u2,r2,o2,f2⟩:=h2
 exact⟨u1++u2,r1.append r2,fun c hc=>(List.mem_append.1 hc).elim (o1 c) (o2 c),f1.app f2⟩
theorem Rd.nil:Rd W L [] []:=⟨[],RelL.nil,by simp,rfl,fun j s u hs=>by simp at hs⟩
theorem Rd.len{ss:List Sh}{cs:List Value}(h:Rd W L ss cs):cs.length=ss.length:=by
 obtain⟨us,r,_,f⟩:=h
 rw[←r.1,f.1]
theorem Rd.one{s:Sh}{v:Value}{u:AV}(hr:Rel W (ZmV W) [] L u v)(h1:v.oneCell'=true)(hc:Cf s u):Rd W L [s] [v]:=
 ⟨[u],RelL.cons hr RelL.nil,by simpa using h1,rfl,fun j s' u' hs hu=>by
   cases j with
   |zero=>simp at hs hu;subst hs;subst hu;exact hc
   |succ j=>simp at hs⟩
theorem ZHA{f:TypeId→Option (List Sh)}{n:Nat}(IH:∀t ss,f t=some ss→∀fuel cs x,DataW.trod enc P W 0 (fun _=>true) true fuel t cs=some x→Rd W L ss cs){cs:List Value} :
 ∀(fs:List Field) (off:Nat) (ss:List Sh),Ztp P f off fs=some ss→(∀(i:Nat) (fd:Field),fs[i]? =some fd→∃x,DataW.trod enc P W 0 (fun _=>true) true n fd.type ((cs.drop fd.offset).take (P.cellsOf fd.type))=some x)→
 (cs.drop off).length=ss.length→Rd W L ss (cs.drop off)
 |[],off,ss,h,_,hl=>by
  simp only[Ztp,zS]at h
  subst h
  rw[List.eq_nil_of_length_eq_zero hl]
  exact Rd.nil
 |fd::fds,off,ss,h,hx,hl=>by
  simp only[Ztp]at h
  split at h
  ·rename_i l ho hfl
   split at h
   ·rename_i r hcl hr
    simp only[zS]at h
    subst h
    have ho:fd.offset=off:=by simpa using ho
    have hcl:P.cellsOf fd.type=l.length:=by simpa using hcl
    obtain⟨x,hxx⟩:=hx 0 fd rfl
    rw[ho,hcl]at hxx
    have h1:=IH _ _ hfl _ _ _ hxx
    have h2:=ZHA IH fds (off+l.length) r hr (fun i fd' h'=>hx (i+1) fd' (by simpa using h')) (by simp at hl ⊢;omega)
    have:=h1.app h2
    rw[show cs.drop (off+l.length)=(cs.drop off).drop l.length by rw[List.drop_drop],List.take_append_drop]at this
    exact this
   ·cases h
  ·cases h
theorem ZvX{l:List Sh}{n c:Nat}{e:TypeId}{cs:List Value}(hc:c=l.length)(IH:∀i,i<n→Rd W L l ((cs.drop (i*c)).take c)):
 ∀(k s:Nat),s+k=n→cs.length=n*c→Rd W L (List.replicate k l).flatten (cs.drop (s*c))
 |0,s,hs,hl=>by
  rw[List.drop_of_length_le (by rw[hl,←hs];simp)]
  exact Rd.nil
 |k+1,s,hs,hl=>by
  have h1:=IH s (by omega)
  have h2:=ZvX (e:=e) hc IH k (s+1) (by omega) hl
  have:=h1.app h2
  rw[Nat.add_mul,Nat.one_mul,show cs.drop (s*c+c)=(cs.drop (s*c)).drop c by rw[List.drop_drop],List.take_append_drop]at this
  rw[List.replicate_succ,List.flatten_cons]
  exact this
theorem Zhn:∀ {l:zA},(∀u∈l,u.pure=true)→AV.pureL l=true
 |[],_=>rfl
 |u::l,h=>by simp only[AV.pureL,Bool.and_eq_true];exact⟨h u (by simp),Zhn fun v hv=>h v (by simp[hv])⟩
theorem Zlf{α:Type}{sz:Nat}(g:Nat→List α):∀(n:Nat),(∀i,i<n→(g i).length=sz)→∀j,((List.range n).flatMap g)[j]? =if j<n*sz then(g (j/sz))[j%sz]? else none
 |0,_,j=>by simp
 |n+1,hg,j=>by
  have ih:=Zlf g n (fun i hi=>hg i (by omega))
  have hlen:((List.range n).flatMap g).length=n*sz:=by
   apply Nat.le_antisymm
   ·have h1:=ih (n*sz)
    rw[if_neg (by omega)]at h1
    simpa using h1
   ·rcases Nat.lt_or_ge ((List.range n).flatMap g).length (n*sz)with h |h
    ·have h1:=ih ((List.range n).flatMap g).length
     rw[if_pos h,List.getElem?_eq_none (Nat.le_refl _)]at h1
     have hz:0<sz:=by rcases Nat.eq_zero_or_pos sz with h0 |h0;· subst h0;simp at h
                      ·exact h0
     have h2:((List.range n).flatMap g).length/sz<n:=by rw[Nat.div_lt_iff_lt_mul hz];exact h
     rw[List.getElem?_eq_getElem (by rw[hg _ (by omega)];exact Nat.mod_lt _ hz)]at h1
     cases h1
    ·exact h
  rw[List.range_succ,List.flatMap_append,List.flatMap_singleton]
  by_cases hj:j<n*sz
  ·rw[List.getElem?_append_left (by omega),ih,if_pos hj,if_pos (by rw[Nat.add_mul];omega)]
  ·rw[List.getElem?_append_right (by omega),hlen]
   by_cases hj2:j<(n+1)*sz
   ·rw[if_pos hj2]
    rw[Nat.add_mul,Nat.one_mul]at hj2
    have hz:0<sz:=by omega
    have e1:j/sz=n:=by
     rw[Nat.div_eq_iff hz];constructor
     ·rw[Nat.mul_comm]at hj ⊢;omega
     ·omega
    have e2:j%sz=j-n*sz:=by
     have:=Nat.div_add_mod j sz
     rw[e1,Nat.mul_comm]at this;omega
    rw[e1,e2]
   ·rw[if_neg hj2]
    exact List.getElem?_eq_none (by rw[hg n (by omega)];rw[Nat.add_mul]at hj2;omega)
theorem ZpM(s:Sh)(a:AV):s.view1 (s.view1 a)=s.view1 a:=by cases s<;>rfl
theorem ZmO:∀ {ss:List Sh} {us pre:zA},Cfs ss us→Zfa ss pre.length (.agg (.gen (pre++us)))=us
 |[],us,pre,h=>by have:=h.1;cases us<;>simp at this;rfl
 |s::ss,us,pre,h=>by
  cases us with
  |nil=>have:=h.1;simp at this
  |cons u us=>
   obtain⟨a,rfl⟩:=(h.2 0 s u rfl rfl).1
   have ht:Cfs ss us:=⟨by have:=h.1;simpa using this,fun j s' u' hs hu=>h.2 (j+1) s' u' (by simpa using hs) (by simpa using hu)⟩
   have:=ZmO (pre:=pre++[s.view1 a]) ht
   rw[List.append_assoc,List.length_append]at this
   simp only[List.length_singleton,List.singleton_append]at this
   simp only[Zfa,this]
   congr 1
   simp only[AV.cellAt,List.getD_eq_getElem?_getD,List.getElem?_append_right (Nat.le_refl _),Nat.sub_self,List.getElem?_cons_zero,Option.getD_some]
   exact ZpM s a
theorem ZtF{ss:List Sh}{us:zA}(h:Cfs ss us):∀u∈us,u.pure=true∧u.single=true:=fun u hu=>by
 obtain⟨j,hj⟩:=List.mem_iff_getElem?.1 hu
 have hlt:=(List.getElem?_eq_some_iff.1 hj).1
 obtain⟨a,rfl⟩:=(h.2 j _ u (List.getElem?_eq_getElem (by rw[←h.1];exact hlt)) hj).1
 exact⟨Zf6 _ _,ZdP _ _⟩
def ZEe(ag:Bool)(us:zA):AV:=match ag with |true=>.agg (.gen us) |false=>us.getD 0 .top
theorem Zii{ag:Bool}{ss:List Sh}{s:Sh}{us:zA}(hs:ZBB ag ss=some s)(h:Cfs ss us):s.view (ZEe ag us)=ZEe ag us∧(ZEe ag us).flat=us:=by
 unfold ZBB at hs
 split at hs
 ·cases hs
 ·rename_i s1 ss1
  cases hs
  refine⟨?_,rfl⟩
  have:=ZmO (pre:=[]) h
  simp only[List.nil_append,List.length_nil]at this
  simp only[Sh.view,ZEe,this]
 ·rename_i s1
  cases hs
  have hl:=h.1
  match us,hl with
  |[u],_=>
   obtain⟨⟨a,rfl⟩,_,hlf⟩:=h.2 0 _ u rfl rfl
   refine⟨?_,ZbG (ZdP _ _)⟩
   show s.view (s.view1 a)=s.view1 a
   cases s with
   |agg l=>cases hlf
   |_=>rfl
 ·cases hs
def Zfw(s:Sh)(es:zA):Row:=match s with
 | .int k=>.ints k (es.map AV.toI)
 |s=>.big s es
theorem ZhB(s:Sh)(es:zA):(Zfw s es).elems=es.map s.view:=by
 cases s<;>simp[Zfw,Row.elems,Sh.view,Sh.view1,List.map_map,Function.comp_def]
theorem Zim(s:Sh)(es:zA):AV.list (Zfw s es)=(ZGc s).view1 (.list (Zfw s es)):=by cases s<;>rfl
theorem ZlP(s:Sh):(ZGc s).leaf=true:=by cases s<;>rfl
theorem Znj{g:Nat→AV}{u:Nat→zA}{n:Nat}(h:∀i,i<n→(g i).flat=u i):Zai ((List.range n).map g)=(List.range n).flatMap u:=by
 unfold Zai
 rw[List.flatMap_map]
 exact flatMap_congr_range h
theorem ZE2(a:Addr)(i sz j:Nat):(a.add (i*sz)).add j=a.add (i*sz+j):=Zgh a _ _
theorem ZFO{t e:TypeId}{de:TypeDesc}{l:List Sh}{s:Sh}(ht:P.underlying t=some (.slice e))(hcl:P.cellsOf e=l.length)(hs:ZBB (Zba de) l=some s)
 (IH:∀fuel cs x,DataW.trod enc P W 0 (fun _=>true) true fuel e cs=some x→Rd W L l cs) {fuel:Nat} {cs:List Value} {x:DataW H×List MemPlace} (h:DataW.trod enc P W 0 (fun _=>true) true fuel t cs=some x):Rd W L [ZGc s] cs:=by
 have hpos:0<l.length:=by
  unfold ZBB at hs
  split at hs<;>first |(cases hs;done) |simp
 have emp:∀ad c,Rd W L [ZGc s] [.slice ad 0 c]:=fun ad c=>Rd.one (u:=.list (Zfw s [])) (.nil _ ad c (by rw[ZhB];rfl)) rfl ⟨⟨_,Zim s []⟩,by cases s<;>simp[Zfw,wfV],ZlP s⟩
 rcases open_slice ht h with⟨rfl,_⟩ |⟨a,len,cap,m,n,D,Pl,rfl,hb,hl,hm,hmm,_,hx⟩
 ·exact emp none 0
 ·by_cases h0:len=0
  ·subst h0;exact emp (some a) cap
  ·simp only[if_true]at hmm
   subst hmm
   obtain⟨F,hF⟩:=choose_lt (α:=List Value×zA) (n:=len) (p:=fun i p=>W.cells? 0 (a.add (i*P.cellsOf e)) (P.cellsOf e)=some p.1∧RelL W (ZmV W) [] L p.2 p.1∧(∀c∈p.1,c.oneCell'=true)∧Cfs l p.2) (fun i hi=>by
    obtain⟨cs',h1,h2⟩:=hx i (by omega)
    obtain⟨us,r,o,f⟩:=IH _ _ _ h2
    exact⟨(cs',us),h1,r,o,f⟩)
   rw[hcl]at hF
   have hcells:∀i,i<len→(F i).1.length=l.length∧∀j,j<l.length→W.cell? (a.add (i*l.length+j))=(F i).1[j]?:=fun i hi=>by
    obtain⟨_,g1,g2⟩:=World.cells?_some (hF i hi).1
    exact⟨g1,fun j hj=>by rw[←ZE2];exact g2 j hj⟩
   have hul:∀i,i<len→(F i).2.length=l.length:=fun i hi=>(hF i hi).2.2.2.1
   obtain⟨es,hes⟩:∃es,es=(List.range len).map fun i=>ZEe (Zba de) (F i).2:=⟨_,rfl⟩
   have hview:es.map s.view=es:=by
    rw[hes,List.map_map]
    exact List.map_congr_left fun i hi=>(Zii hs (hF i (List.mem_range.1 hi)).2.2.2).1
   have hfl:Zai es=(List.range len).flatMap fun i=>(F i).2:=by
    rw[hes];exact Znj fun i hi=>(Zii hs (hF i hi).2.2.2).2
   have hsz:∀x∈es,x.flat.length=l.length:=fun x hx=>by
    rw[hes]at hx
    obtain⟨i,hi,rfl⟩:=List.mem_map.1 hx
    rw[(Zii hs (hF i (List.mem_range.1 hi)).2.2.2).2]
    exact hul i (List.mem_range.1 hi)
   have hlen:es.length=len:=by rw[hes];simp
   have gU:=Zlf (fun i=>(F i).2) len hul
   have gV:=Zlf (fun i=>(F i).1) len (fun i hi=>(hcells i hi).1)
   have hlt:a.block<W.heap.size:=by
    have h1:=(hcells 0 (by omega)).2 0 hpos
    rw[List.getElem?_eq_getElem (by rw[(hcells 0 (by omega)).1];exact hpos)]at h1
    have:=ZBv h1
    rw[Zdg]at this;exact this
   have hidx:∀j,j<len*l.length→j/l.length<len∧j%l.length<l.length:=fun j hj=>⟨by rw[Nat.div_lt_iff_lt_mul hpos];exact hj,Nat.mod_lt _ hpos⟩
   refine Rd.one (u:=.list (Zfw s es)) ?_ rfl ⟨⟨_,Zim s es⟩,?_,ZlP s⟩
   ·refine .list (Zfw s es) es (by rw[ZhB,hview]) a len _ l.length ((List.range len).flatMap fun i=>(F i).1) hlt hlt hlen.symm hl hsz ?_ ?_ ?_ ?_ ?_
    ·rw[hfl]
     have e1:∀(g:Nat→List Value) (k:Nat→zA) (n:Nat),(∀i,i<n→(g i).length=(k i).length)→((List.range n).flatMap g).length=((List.range n).flatMap k).length:=by
      intro g k n
      induction n with
      |zero=>intro _;rfl
      |succ n ih=>
       intro hgk
       rw[List.range_succ,List.flatMap_append,List.flatMap_append,List.length_append,List.length_append,ih (fun i hi=>hgk i (by omega))]
       simp[hgk n (by omega)]
     exact e1 _ _ _ fun i hi=>by rw[(hcells i hi).1,hul i hi]
    ·intro c hc
     obtain⟨i,hi,hc⟩:=List.mem_flatMap.1 hc
     exact(hF i (List.mem_range.1 hi)).2.2.1 c hc
    ·intro j v hj
     rw[gV j]at hj
     split at hj
     ·rename_i hjl
      obtain⟨q1,q2⟩:=hidx j hjl
      have:=(hcells _ q1).2 _ q2
      rw[show j/l.length*l.length+j%l.length=j by rw[Nat.mul_comm];exact Nat.div_add_mod j _]at this
      rw[this,hj]
     ·cases hj
    ·rw[hfl]
     exact Zhn fun u hu=>by
      obtain⟨i,hi,hu⟩:=List.mem_flatMap.1 hu
      exact(ZtF (hF i (List.mem_range.1 hi)).2.2.2 u hu).1
    ·intro j u v hu hv
     rw[hfl,gU j]at hu
     rw[gV j]at hv
     split at hu
     ·rename_i hjl
      rw[if_pos hjl]at hv
      exact(hF _ (hidx j hjl).1).2.1.2 _ u v hu hv
     ·cases hu
   ·unfold Zfw
    split
    ·rename_i k
     simp only[wfV]
     intro z hz
     obtain⟨e1,he1,rfl⟩:=List.mem_map.1 hz
     rw[hes]at he1
     obtain⟨i,hi,rfl⟩:=List.mem_map.1 he1
     have hc:=(hF i (List.mem_range.1 hi)).2.2.2
     unfold ZBB at hs
     split at hs
     ·cases hs
     ·cases hs
     ·rename_i s1 hag
      cases hs
      have hl1:=hc.1
      rw[show Zba de=false from by first |assumption |(rename_i hx _ _;exact hx)] 
      match hq:(F i).2,hl1 with
      |[u],_=>
       obtain⟨⟨a,ha⟩,hw,_⟩:=hc.2 0 (.int k) u rfl (by rw[hq];rfl)
       subst ha
       exact hw
     ·cases hs
    ·trivial
theorem Zv7:∀(d:Nat) (t:TypeId) (ss:List Sh),ZvQ P d t=some ss→∀(fuel:Nat) (cs:List Value) (x:DataW H×List MemPlace),DataW.trod enc P W 0 (fun _=>true) true fuel t cs=some x→Rd W L ss cs
 |0,t,ss,h,_,_,_,_=>by simp[ZvQ]at h
 |d+1,t,ss,h,fuel,cs,x,hx=>by
  have IH:=Zv7 d
  simp only[ZvQ]at h
  split at h
  ·rename_i td ht
   split at h
   ·rename_i l hl
    split at h
    ·rename_i hsz
     simp only[zS]at h
     subst h
     have hsz:P.cellsOf t=l.length:=by simpa using hsz
     unfold ZLN at hl
     split at hl
     ·rename_i k
      cases hl
      obtain⟨n,rfl,_,hw⟩:=DataW.trod_int ht hx
      exact Rd.one (.int k n) rfl ⟨⟨.int k n,rfl⟩,hw,rfl⟩
     ·cases hl
      obtain⟨b,rfl,_⟩:=DataW.trod_bool ht hx
      exact Rd.one (.bool b) rfl ⟨⟨.bool b,rfl⟩,trivial,rfl⟩
     ·cases hl
      obtain⟨s,rfl,_,_⟩:=DataW.trod_string ht hx
      have e:s=⟨s.data.toList.toArray⟩:=by simp
      refine Rd.one (u:=.str s.data.toList) ?_ rfl ⟨⟨.str s.data.toList,rfl⟩,trivial,rfl⟩
      have:=Rel.str (w:=W) (ok:=ZmV W) (h:=[]) (L:=L) s.data.toList
      rw[←e]at this
      exact this
     ·rename_i fs
      obtain⟨xs,n,_,_,hlen,hxl,hf⟩:=DataW.trod_struct ht hx
      have:=ZHA (P:=P) (W:=W) (L:=L) (enc:=enc) (n:=n) IH (cs:=cs) fs.toList 0 l hl (fun i fd hfd=>by
       have hfd':fs[i]? =some fd:=by simpa using hfd
       have h1:=hf i fd hfd'
       have hi:i<xs.length:=by rw[hxl];exact(Array.getElem?_eq_some_iff.1 hfd').1
       exact⟨xs[i],by rw[h1,List.getElem?_eq_getElem hi]⟩) (by simp[hlen,hsz])
      simpa using this
     ·rename_i n e
      split at hl
      ·rename_i le hle
       split at hl
       ·rename_i hce
        simp only[zS]at hl
        subst hl
        have hce:P.cellsOf e=le.length:=by simpa using hce
        obtain⟨xs,m,_,_,hlen,hxl,hf⟩:=DataW.trod_array ht hx
        have:=ZvX (W:=W) (L:=L) (l:=le) (n:=n) (c:=P.cellsOf e) (e:=e) (cs:=cs) hce (fun i hi=>by
         have h1:=hf i hi
         rw[List.getElem?_eq_getElem (by rw[hxl];exact hi)]at h1
         exact IH _ _ hle _ _ _ h1) n 0 (by simp) (by rw[hlen,hsz,hce];simp)
        simpa using this
       ·cases hl
      ·cases hl
     ·rename_i e
      split at hl
      ·rename_i le de hle hde
       split at hl
       ·rename_i s hce hs
        simp only[zS]at hl
        subst hl
        exact ZFO ht (by simpa using hce) hs (fun fuel cs x hx=>IH _ _ hle fuel cs x hx) hx
       ·cases hl
      ·cases hl
     ·cases hl
    ·cases h
   ·cases h
  ·cases h
theorem ZrP{d:Nat}{t:TypeId}{ss:List Sh}(hs:ZvQ P d t=some ss){v:Value}{dd:DataW H}{ps:List MemPlace}(hv:∃cs,v=.agg cs∧cs.size=P.cellsOf t)(h:DataW.Trod enc P W 0 (fun _=>true) true t v dd ps):
 ∃us,Rel W (ZmV W) [] L (.agg (.gen us)) v∧Cfs ss us:=by
 obtain⟨cs,rfl,_⟩:=hv
 obtain⟨fuel,hf⟩:=h
 obtain⟨us,r,o,f⟩:=Zv7 (L:=L) d t ss hs fuel _ _ hf
 exact⟨us, .agg _ us rfl cs (by simpa[Value.cells]using r.1) (fun c hc=>o c (by simpa[Value.cells]using hc)) (fun j u v hu hv=>r.2 j u v hu (by simpa[Value.cells]using hv)),f⟩
end
end Go.Proofs.YtkeoeooghhjibaaGreatDoor
namespace Go.Proofs.YtkeoeooghhjibaaGreatDoor
theorem Zi4{k:IntKind}{u:AV}(h:Cf (.int k) u):∃n,u=.int k n∧(Lit.int k n).wf=true:=by
 obtain⟨⟨a,rfl⟩,hw,_⟩:=h
 exact⟨_,rfl,hw⟩
theorem Zrd{u:AV}(h:Cf .bool u):∃b,u=.bool b:=by
 obtain⟨⟨a,rfl⟩,hw,_⟩:=h
 exact⟨_,rfl⟩
theorem Zx2{k:IntKind}{u:AV}(h:Cf (.ints k) u):∃l:zI,u=.list (.ints k l)∧∀x∈l,(Lit.int k x).wf=true:=by
 obtain⟨⟨a,rfl⟩,hw,_⟩:=h
 exact⟨_,rfl,hw⟩
theorem Zkh{s:Sh}{u:AV}(h:Cf (.big s) u):∃l:zA,u=.list (.big s l):=by
 obtain⟨⟨a,rfl⟩,hw,_⟩:=h
 exact⟨_,rfl⟩
theorem Znd{us:zA}(h:Cfs [] us):us=[]:=List.eq_nil_of_length_eq_zero h.1
theorem Zbd{s:Sh}{ss:List Sh}{us:zA}(h:Cfs (s::ss) us):∃u r,us=u::r∧Cf s u∧Cfs ss r:=by
 cases us with
 |nil=>have:=h.1;simp at this
 |cons u r=>exact⟨u,r,rfl,h.2 0 s u rfl rfl,by have:=h.1;simpa using this,fun j s' u' hs hu=>h.2 (j+1) s' u' (by simpa using hs) (by simpa using hu)⟩
end Go.Proofs.YtkeoeooghhjibaaGreatDoor
