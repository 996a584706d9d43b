/- Soundness of slices that are made, grown and copied; of all operations. No condition. -/
import Derived.Test.YtkeoeooghhjibaaGreatDoorXg
namespace Go.Proofs.YtkeoeooghhjibaaGreatDoor
open Go.RowKit (Below)
section
variable {C:Ctx}{o:Oper}{ρ:Opd→AV}{ev:Operand→Value}{h h':Zad}{w w':World}{L:Lay}{v:AV}{P:Program}
theorem ZlO{sz:Nat} :∀(vs:List (List Value)) (k:Nat) (cells:List Value),(∀v∈vs,v.length=sz)→cells.length=(k+vs.length)*sz→
 Zle cells ((vs.zipIdx k).map fun p=>(p.2*sz,p.1))=cells.take (k*sz)++vs.flatten
 |[],k,cells,_,hl=>by
  simp only[List.length_nil,Nat.add_zero]at hl
  simp[Zle,←hl]
 |v::vs,k,cells,hv,hl=>by
  have h1:=hv v (by simp)
  simp only[List.length_cons]at hl
  have hle:k*sz+sz≤cells.length:=by rw[hl];have:=Nat.mul_le_mul_right sz (show k+1≤k+(vs.length+1) by omega);rwa[Nat.add_mul,Nat.one_mul]at this
  simp only[List.zipIdx_cons,List.map_cons,Zle,spl]
  rw[ZlO vs (k+1) _ (fun u hu=>hv u (by simp[hu])) (by rw[List.length_append,List.length_append,List.length_take,List.length_drop,h1,show k+1+vs.length=k+(vs.length+1) by omega,←hl];omega)]
  have e0:(cells.take (k*sz)).length=k*sz:=by rw[List.length_take];omega
  have e1:(cells.take (k*sz)++v++cells.drop (k*sz+v.length)).take ((k+1)*sz)=cells.take (k*sz)++v:=by
   have e2:(k+1)*sz=(cells.take (k*sz)++v).length:=by rw[List.length_append,e0,h1,Nat.add_mul,Nat.one_mul]
   rw[e2,List.take_left]
  rw[e1]
  simp
theorem Zkn:∀ {k:Nat} {xs:List Opd} {ys:List (Nat×Operand)},ZnO k xs ys=true→ys=((ys.map (·.2)).zipIdx k).map (fun p=>(p.2,p.1))∧xs.length=ys.length∧∀(j:Nat) (x:Opd) (y:Operand),xs[j]? =some x→(ys.map (·.2))[j]? =some y→Za6 x y=true
 |_,[],[],_=>⟨rfl,rfl,fun j x y hx=>by simp at hx⟩
 |k,x::xs,(i,y)::ys,h=>by
  simp only[ZnO,Bool.and_eq_true,beq_iff_eq]at h
  obtain⟨h1,h2,h3⟩:=Zkn h.2
  refine⟨?_,by simp[h2],fun j x' y' hx hy=>?_⟩
  ·simp only[List.map_cons,List.zipIdx_cons]
   rw[h.1.1,←h1]
  ·cases j with
   |zero=>simp at hx hy;subst hx;subst hy;exact h.1.2
   |succ j=>exact h3 j x' y' (by simpa using hx) (by simpa using hy)
 |_,[],(_,_)::_,h=>by simp[ZnO]at h
 |_,_::_,[],h=>by simp[ZnO]at h
theorem Zvy{a e sz:Nat}{r:Row}{c n g:Nat}(hn:n=r.elems.length)(hc:n≤c):ZaH C (Zal h a (.row e sz r)) (L.put a (nxt h a) g c) w' (.row a (nxt h a)) (.slice (some ⟨g,0,none⟩) n c):=
 .row _ _ _ _ _ hc (ZcB (fun s hs=>by cases hs;exact⟨fun _=>rfl,hn,by rw[Lay.put_size]⟩))
theorem Zms(H:HRel C h L w)(hρ:Rho C h L w ρ ev){a:Nat}{t e:TypeId}{sz ln:Nat}{zv:Value}{i:TypeInfo}{parts:List Opd}{parts':Array (Nat×Operand)}(ho:o.op=.buildSlice t ln parts')(hm:ZnO 0 parts parts'.toList=true)(hln:ln=parts.length)
 (ht:C.P.underlying t=some (.slice e)) (hi:C.P.info? e=some i) (hz:i.zero=some zv) (hsz:i.size=sz) (hpos:0<sz) (hsmall:parts.length*sz≤65536) (hfit:Row.fits std sz (.gen (parts.map ρ))=true):
 Snd C h L w ev o (Zal h a (.row e sz (ZnC (parts.map ρ)))) (.row a (nxt h a)):=by
 have hel:∀u∈parts.map ρ,u.bx=true∧u.flat.length=sz:=Row.fits_std hfit
 obtain⟨m1,m2,m3⟩:=Zkn hm
 have hrels:∀(j:Nat) (x:Opd) (y:Operand),parts[j]? =some x→(parts'.toList.map (·.2))[j]? =some y→RelL w (Zaz C h L) h L (ρ x).flat (ev y).cells.toList∧(∀c∈(ev y).cells,c.oneCell'=true)∧(ev y).cells.size=sz:=by
  intro j x y hx hy
  obtain⟨e2,e3⟩:=hel (ρ x) (List.mem_map.2 ⟨x,List.mem_of_getElem? hx,rfl⟩)
  obtain⟨c1,c2⟩:=Rel.cells (hρ.rel x y (m3 j x y hx hy)) e2
  exact⟨c1,c2,by have:=c1.1;simp only[Array.length_toList]at this;omega⟩
 generalize hys:parts'.toList.map (·.2)=ys at*
 have hyl:ys.length=parts.length:=by rw[←hys];simp[m2]
 have hget:∀y∈ys,∃j x,parts[j]? =some x∧ys[j]? =some y:=fun y hy=>by
  obtain⟨j,hj⟩:=List.mem_iff_getElem?.1 hy
  have hlt:j<parts.length:=by rw[←hyl];exact(List.getElem?_eq_some_iff.1 hj).1
  exact⟨j,_,List.getElem?_eq_getElem hlt,hj⟩
 have hsize:∀y∈ys,(ev y).cells.size=sz:=fun y hy=>by
  obtain⟨j,x,hx,hyj⟩:=hget y hy
  exact(hrels j x y hx hyj).2.2
 let zero:Array Value:=if ln*sz=0 then #[]else zv.cells
 obtain⟨out,e1,e2⟩:=Zob (fun i=>some (i*sz,sz)) (fun i=>i*sz) (parts'.toList.map fun(i,x)=>(i,ev x)) ((Array.range (ln*sz)).map (zero[· %zero.size]!)) (by
  intro p hp
  obtain⟨q,hq,rfl⟩:=List.mem_map.1 hp
  rw[m1]at hq
  obtain⟨r,hr,rfl⟩:=List.mem_map.1 hq
  have hy:r.1∈ys:=(List.mem_zipIdx hr).2.2▸List.getElem_mem _
  have hlt:r.2<ys.length:=by have:=(List.mem_zipIdx hr).2.1;omega
  dsimp only
  rw[hsize r.1 hy]
  refine⟨rfl,?_⟩
  simp only[Array.size_map,Array.size_range,hln]
  have:=Nat.mul_le_mul_right sz (show r.2+1≤parts.length by omega)
  rwa[Nat.add_mul,Nat.one_mul]at this)
 have hout:out.toList=(ys.map fun y=>(ev y).cells.toList).flatten:=by
  rw[e2]
  have e3:((parts'.toList.map fun(i,x)=>(i,ev x)).map fun p=>(p.1*sz,p.2.cells.toList))=((ys.map fun y=>(ev y).cells.toList).zipIdx 0).map fun p=>(p.2*sz,p.1):=by
   rw[m1]
   simp[List.zipIdx_map,Function.comp_def]
  rw[e3,ZlO _ 0 _ (fun v hv=>by obtain⟨y,hy,rfl⟩:=List.mem_map.1 hv;simpa using hsize y hy) (by simp[hln,hyl])]
  simp
 have hrelF:∀(ps:List Opd) (zs:List Operand),ps.length=zs.length→(∀(j:Nat) (x:Opd) (y:Operand),ps[j]? =some x→zs[j]? =some y→RelL w (Zaz C h L) h L (ρ x).flat (ev y).cells.toList)→
  RelL w (Zaz C h L) h L (Zai (ps.map ρ)) ((zs.map fun y=>(ev y).cells.toList).flatten):=by
  intro ps
  induction ps with
  |nil=>intro zs hl _;cases zs with
   |nil=>exact RelL.nil
   |cons z zs=>simp at hl
  |cons p ps ih=>
   intro zs hl hh
   cases zs with
   |nil=>simp at hl
   |cons z zs=>
    have h0:=hh 0 p z rfl rfl
    have h1:=ih zs (by simpa using hl) (fun j x y hx hy=>hh (j+1) x y (by simpa using hx) (by simpa using hy))
    simp only[List.map_cons,List.flatten_cons]
    rw[ZaL]
    exact h0.append h1
 have hrel:=hrelF parts ys hyl.symm (fun j x y hx hy=>(hrels j x y hx hy).1)
 rw[←hout]at hrel
 have hone:∀c∈out,c.oneCell'=true:=by
  intro c hc
  have hc:c∈out.toList:=by simpa using hc
  rw[hout]at hc
  obtain⟨l,hl,hcl⟩:=List.mem_flatten.1 hc
  obtain⟨y,hy,rfl⟩:=List.mem_map.1 hl
  obtain⟨j,x,hx,hyj⟩:=hget y hy
  exact(hrels j x y hx hyj).2.1 c (by simpa using hcl)
 have hle:parts.length≤maxLen:=by have:=Nat.le_mul_of_pos_right parts.length hpos;simp[maxLen];omega
 have hnr:=H.newRow a (e:=e) (sz:=sz) (r:=ZnC (parts.map ρ)) (cur:=out) hpos (by rw[ZdV];exact fun x hx=>(hel x hx).2) (by rw[ZdV];exact hrel) hone (by rw[ZdV,List.length_map];exact hle)
 have hlen:(ZnC (parts.map ρ)).elems.length=parts.length:=by rw[ZdV,List.length_map]
 refine⟨_,_, .slice (some ⟨w.heap.size,0,none⟩) parts.length parts.length, .inl ?_,hnr.1,hnr.2,fun _=>by rw[hlen];exact Zvy hlen.symm (Nat.le_refl _)⟩
 have hsm:¬(ln*sz>2^24):=by rw[hln];omega
 have e1':Instr.fill (fun i=>some (i*sz,sz)) ((Array.range (ln*sz)).map (zero[· %zero.size]!)) (parts'.map fun x=>(x.1,ev x.2)).toList=some out:=by simpa using e1
 by_cases h0:ln*sz=0
 ·have hz0:zero= #[]:=by simp[zero,h0]
  rw[hz0]at e1'
  simp only[execOp,ho,Instr.buildSlice,Sem.run_bind,Zay ht,Result.andThen_ok,ZbB hi,hsz,if_neg hsm,if_pos h0,Sem.run_pure,e1']
  simp[Go.newRow,hln]
 ·have hz0:zero=zv.cells:=by simp[zero,h0]
  rw[hz0]at e1'
  have hzz:(zeroValue e).run C.P w=.ok zv w:=by simp[zeroValue,typeInfo,hi,hz]
  simp only[execOp,ho,Instr.buildSlice,Sem.run_bind,Zay ht,Result.andThen_ok,ZbB hi,hsz,if_neg hsm,if_neg h0,Sem.run_pure,hzz,e1']
  simp[Go.newRow,hln]
theorem Zee(H:HRel C h L w)(kill:Nat→Nat→Prop)(hm:Zad)(hn:∀a,nxt hm a=nxt h a)(hkk:∀a i,blk hm a i=.dead∨(¬kill a i∧blk hm a i=blk h a i)){a:Nat}{e sz:Nat}{r:Row}{g n c:Nat}{cs:List Value}
 (hown:w'.ownsRow C.base e sz (.slice (some ⟨g,0,none⟩) n c) n cs) (hnr:n=r.elems.length) (hrel:RelL w (Zaz C h L) h L (Zai r.elems) cs) (hf:∀x∈r.elems,x.flat.length=sz) (h1:∀c∈cs,c.oneCell'=true) (hsz:0<sz)
 {row:Option Nat} (hg:w.grownBy w' row) (hrow:∀k,row=some k→∃b j,kill b j∧Plc h L b j∧k=L.loc b j) (hko:∀b j,kill b j→Plc h L b j→C.n0≤L.loc b j) (hgg:w.heap.size≤g∨row=some g):
 ∃L',Step w (Zaz C h L) h L w' (Zaz C (Zal hm a (.row e sz r)) L') (Zal hm a (.row e sz r)) L'∧HRel C (Zal hm a (.row e sz r)) L' w'∧ZaH C (Zal hm a (.row e sz r)) L' w' (.row a (nxt h a)) (.slice (some ⟨g,0,none⟩) n c):=by
 obtain⟨hcl,⟨hv,_⟩ |⟨g',cap,cur,hv,hb,hgc,hnc,hcm,hcs,htake⟩⟩:=hown
 ·cases hv
 ·cases hv
  have hlt:g<w'.heap.size:=(Array.getElem?_eq_some_iff.1 hgc).1
  have hbel:Below C.base w w':=(Below.refl _ _).grown hg H.hbase (fun k hk=>by obtain⟨b,j,_,hl,rfl⟩:=hrow k hk;exact(H.live b j hl).1)
  obtain⟨s,H'⟩:=H.pushK (w':=w') kill hm hn hkk a (.row e sz r) g c hbel (fun k hk hne=>hg.block k hk (fun e=>by
   obtain⟨b,j,h1,h2,h3⟩:=hrow k e.symm
   exact hne b j h1 h2 h3)) (fun _=>by
    rcases hgg with hgg |hgg
    ·exact .inl ⟨hgg,hlt⟩
    ·obtain⟨b,j,h1,h2,h3⟩:=hrow g hgg;exact .inr ⟨b,j,h1,h2,h3⟩) (fun _=>by
    rcases hgg with hgg |hgg
    ·exact Nat.le_trans H.top hgg
    ·obtain⟨b,j,h1,h2,h3⟩:=hrow g hgg;rw[h3];exact hko b j h1 h2)
   (fun s=>⟨hsz,hcm,by rw[←hnr];exact hnc,hf,fun _=>⟨cur,hgc,hcs,by rw[←hnr,htake];exact hrel.step s,by rw[←hnr,htake];exact h1⟩⟩)
  refine⟨_,s,H',?_⟩
  have hp:=ZhM hm a (.row e sz r)
  rw[hn]at hp
  refine .row _ _ _ _ _ hnc ⟨by rw[Zcs,if_pos rfl,hn];omega,fun s hs=>?_⟩
  rw[hp]at hs
  cases hs
  exact⟨fun _=>by rw[Lay.put_loc],hnr,by rw[Lay.put_size]⟩
theorem ZcO(H:HRel C h L w)(kill:Nat→Nat→Prop)(hm:Zad)(hn:∀a,nxt hm a=nxt h a)(hkk:∀a i,blk hm a i=.dead∨(¬kill a i∧blk hm a i=blk h a i)){a:Nat}{e sz:Nat}{r:Row}(hr:r.elems=[])(hsz:0<sz):
 ∃L',Step w (Zaz C h L) h L w (Zaz C (Zal hm a (.row e sz r)) L') (Zal hm a (.row e sz r)) L'∧HRel C (Zal hm a (.row e sz r)) L' w∧∀ad,ZaH C (Zal hm a (.row e sz r)) L' w (.row a (nxt h a)) (.slice ad 0 0):=by
 have hnp:¬plc (Blk.row e sz r).tag 0:=by
  rintro⟨s,e1,e2⟩
  cases e1
  rcases e2 with e2 |e2
  ·exact absurd e2 (by simpa using Nat.pos_iff_ne_zero.1 hsz)
  ·exact e2 rfl
 obtain⟨s,H'⟩:=H.pushK (w':=w) kill hm hn hkk a (.row e sz r) 0 0 (Below.refl _ _) (fun _ _ _=>rfl) (fun hp=>absurd hp hnp) (fun hp=>absurd hp hnp)
  (fun s=>⟨hsz,Nat.zero_le _,by simp[hr],by simp[hr],fun hh=>absurd rfl hh⟩)
 refine⟨_,s,H',fun ad=>?_⟩
 have hp:=ZhM hm a (.row e sz r)
 rw[hn]at hp
 refine .row _ _ _ _ _ (Nat.le_refl _) ⟨by rw[Zcs,if_pos rfl,hn];omega,fun s hs=>?_⟩
 rw[hp]at hs
 cases hs
 exact⟨fun hh=>absurd rfl hh,by simp[hr],by rw[Lay.put_size]⟩
theorem ZmE(w:World)(base:Nat)(e:TypeId)(zv:Value)(sz m old:Nat)(news:List Value)(hzs:zv.cells.size=sz)(hl:news.length=m*sz)(hb:base≤w.heap.size)(hm:m≤maxLen):
 (w.drew.alloc (.cells (([]:List Value).toArray++news.toArray++Builtin.zeroCells zv.cells (grownCap w m old e-m)) e)).ownsRow base e sz (.slice (some ⟨w.heap.size,0,none⟩) m (grownCap w m old e)) m news∧
   w.grownBy (w.drew.alloc (.cells (([]:List Value).toArray++news.toArray++Builtin.zeroCells zv.cells (grownCap w m old e-m)) e)) none:=by
 have hge:=grownCap_ge w m old e
 have hcm:grownCap w m old e≤maxLen:=grownCap_le_maxLen w m old e hm
 refine⟨⟨hl, .inr ⟨w.heap.size,_,_,rfl,hb,heap_alloc_new w.drew _,hge,hcm,?_,?_⟩⟩,⟨rfl,rfl,rfl,by simp,fun k hk _=>(Go.MapKept.heap_alloc w.drew _).2 k hk⟩⟩
 ·simp only[Array.size_append,List.size_toArray,size_zeroCells,hzs,hl,List.length_nil,Nat.zero_add,←Nat.add_mul]
  congr 1
  omega
 ·simp only[Array.toList_append,List.nil_append]
  rw[←hl]
  exact List.take_left
theorem ZfF(H:HRel C h L w){a:Nat}{t e:TypeId}{sz:Nat}{z:AV}{zv:Value}{i:TypeInfo}{kd kd':IntKind}{n:Int}{l' c':Operand}(ho:o.op=.makeSlice t l' c')(e1:ev l'=.int kd n)(e2:ev c'=.int kd' n)
 (ht:C.P.underlying t=some (.slice e)) (hi:C.P.info? e=some i) (hz:i.zero=some zv) (hzm:ZdG z zv=true) (hsz:i.size=sz) (hpos:0<sz) (hzs:z.flat.length=sz) (hby:i.bytes≤32768) (hzb:z.bx=true)
 (h0:0≤n) (hle:n≤4294967296):Snd C h L w ev o (Zal h a (.row e sz (ZnX std n.toNat z))) (.row a (nxt h a)):=by
 have hzr:ZaH C h L w z zv:=Zcv hzm
 obtain⟨hz1,hz2⟩:=hzr.cells hzb
 have hzsz:zv.cells.size=sz:=by have:=hz1.1;simp only[Array.length_toList]at this;omega
 obtain⟨w',hr,hown,hg⟩:=run_make_full (P:=C.P) w C.base t e i zv sz ht hi hz hsz kd kd' n.toNat (by have h:=Nat.mul_le_mul hby (show n.toNat≤4294967296 by omega);omega) (by simp[maxLen];omega) H.hbase
 have hnn:((n.toNat:Nat):Int)=n:=by omega
 rw[hnn]at hr
 have hmade:∀m:Nat,(madeCells zv.cells (m*sz)).toList=(List.replicate m zv.cells.toList).flatten:=by
  intro m
  apply List.ext_getElem?
  intro j
  simp only[madeCells,hzsz,Array.toList_map,Array.toList_range]
  rw[List.getElem?_map]
  by_cases hj:j<m*sz
  ·rw[List.getElem?_range hj]
   simp only[Option.map_some]
   have hm:j%sz<zv.cells.size:=by rw[hzsz];exact Nat.mod_lt _ hpos
   have e1:zv.cells[j%sz]! =zv.cells.toList[j%sz]'(by simpa using hm):=by
    simp[getElem!_pos,hm]
   rw[e1]
   have e2:∀(m j:Nat),j<m*sz→((List.replicate m zv.cells.toList).flatten)[j]? =zv.cells.toList[j%sz]?:=by
    intro m
    induction m with
    |zero=>intro j hj;omega
    |succ m ih=>
     intro j hj
     simp only[List.replicate_succ,List.flatten_cons]
     by_cases hjs:j<sz
     ·rw[List.getElem?_append_left (by simpa[hzsz]using hjs),Nat.mod_eq_of_lt hjs]
     ·rw[List.getElem?_append_right (by simp[hzsz];omega),Array.length_toList,hzsz,ih (j-sz) (by rw[Nat.add_mul]at hj;omega)]
      congr 1
      conv=>rhs;rw[show j=j-sz+sz from by omega,Nat.add_mod_right]
   rw[e2 m j hj,List.getElem?_eq_getElem]
  ·rw[List.getElem?_eq_none (by simpa using hj),List.getElem?_eq_none (by simp[hzsz];omega)]
   rfl
 have hrel:∀m:Nat,RelL w (Zaz C h L) h L (Zai (List.replicate m z)) (List.replicate m zv.cells.toList).flatten:=by
  intro m
  induction m with
  |zero=>exact RelL.nil
  |succ m ih=>simp only[List.replicate_succ,List.flatten_cons];rw[ZaL];exact hz1.append ih
 have hone:∀c∈(madeCells zv.cells (n.toNat*sz)).toList,c.oneCell'=true:=by
  intro c hc
  rw[hmade]at hc
  obtain⟨l,hl,hcl⟩:=List.mem_flatten.1 hc
  rw[List.eq_of_mem_replicate hl]at hcl
  exact hz2 c (by simpa using hcl)
 obtain⟨L',s,H',rr⟩:=Zee (w':=w') H (fun _ _=>False) h (fun _=>rfl) (fun _ _=>.inr ⟨fun e=>e,rfl⟩) (a:=a) (e:=e) (sz:=sz) (r:=ZnX std n.toNat z) hown (by rw[ZbE,List.length_replicate]) (by rw[ZbE,hmade];exact hrel _)
  (by rw[ZbE];intro x hx;rw[List.eq_of_mem_replicate hx];exact hzs) hone hpos hg (fun k hk=>by cases hk) (fun b j hk=>hk.elim) (.inl (Nat.le_refl _))
 exact⟨w',L',_, .inl (by simp[execOp,ho,e1,e2,hr]),s,H',fun _=>rr⟩
theorem Zdb{a i:Nat}(hl:blk h a i≠ .dead):(∀b,nxt (ZaY h a i .dead) b=nxt h b)∧∀b j,blk (ZaY h a i .dead) b j=.dead∨(¬(b=a∧j=i)∧blk (ZaY h a i .dead) b j=blk h b j):=by
 refine⟨fun b=>ZdJ _ _ _ _ _,fun b j=>?_⟩
 rw[Zcm hl]
 by_cases e:a=b∧i=j
 ·rw[if_pos e];exact .inl rfl
 ·rw[if_neg e];exact .inr ⟨fun e'=>e ⟨e'.1.symm,e'.2.symm⟩,rfl⟩
theorem ZoC{sz:Nat}{r s:Row}(hr:∀x∈r.elems,x.flat.length=sz)(hs:∀x∈s.elems,x.flat.length=sz):∀x∈r.elems++s.elems,x.flat.length=sz:=fun x hx=>by
 rcases List.mem_append.1 hx with hx |hx
 ·exact hr x hx
 ·exact hs x hx
theorem Zkk(H:HRel C h L w){y:AV}{yv:Value}(ry:ZaH C h L w y yv){s:Row}(hc:ZbP std h y=some (true,s)){sz:Nat}(hu:s.unit std sz=true):∃ad c us,yv=.slice ad s.elems.length c∧RelL w (Zaz C h L) h L (Zai s.elems) us∧(∀c∈us,c.oneCell'=true)∧
 (∀x∈s.elems,x.flat.length=sz)∧us.length=s.elems.length*sz∧(∀a',ad=some a'→∀(j:Nat) (v:Value),us[j]? =some v→w.cell? (a'.add j)=some v)∧(ad=none→s.elems=[]):=by
 obtain⟨ad,m,c,rfl,rfl,hmc,hsome,hnone,sz',hfl⟩:=Zcd H ry hc
 by_cases he:s.elems=[]
 ·exact⟨ad,c,[],rfl,by rw[he];exact RelL.nil,by simp,by rw[he];simp,by rw[he];simp,fun a' _ j v hj=>by simp at hj,hnone⟩
 ·have hss:sz'=sz:=by
   have hg:=Row.get_std (List.length_pos_iff.2 he)
   rw[←hfl _ (List.mem_of_getElem? hg),←Zbc]
   unfold Row.unit at hu
   split at hu
   ·exact absurd rfl he
   ·simpa[std]using hu
  subst hss
  cases ad with
  |none=>exact absurd (hnone rfl) he
  |some a'=>
   obtain⟨us,e1,e2,e3,e4,_⟩:=hsome a' rfl he
   exact⟨some a',c,us,rfl,e4,e2,hfl,by rw[e1,Zax hfl],fun b e=>by cases e;exact e3,fun e=>by cases e⟩
theorem ZmY(H:HRel C h L w){a:Nat}{t e:TypeId}{sz:Nat}{zv:Value}{i:TypeInfo}{x y:AV}{x' y':Operand}(ho:o.op=.call { callee:=.builtin .append,args:= #[x',y'],argTypes:= #[t,t] })(rx:ZaH C h L w x (ev x'))(ry:ZaH C h L w y (ev y'))
 (ht:C.P.underlying t=some (.slice e)) (hi:C.P.info? e=some i) (hz:i.zero=some zv) (hzs:zv.cells.size=sz) (hsz:i.size=sz) (hpos:0<sz) (hby:i.bytes≤32768)
 (hv:ZHN std h a e sz x y=some (true,v,h')):Snd C h L w ev o h' v:=by
 unfold ZHN at hv
 split at hv
 ·cases hv
 ·rename_i b s hcont
  have hun':b=true→s.unit std sz=true→_:=fun e1 e2=>Zkk H ry (e1▸hcont) e2
  have hrun:∀v v' w',ev x'=v→(Builtin.append_ #[t,t] o.type #[v,ev y']).run C.P w=.ok v' w'→(execOp ev o).run C.P w=.ok (.value v') w':=fun v v' w' e1 e2=>by
   simp[execOp,ho,resolve,invoke,builtin,e1,e2]
  -- the general step: onto a value that owns vs
  have step:b=true→s.unit std sz=true→∀(v:Value) (n:Nat) (vs:List Value),w.ownsRow C.base e sz v n vs→n+s.elems.length≤4294967296→
   ∃v' w' us,(Builtin.append_ #[t,t] o.type #[v,ev y']).run C.P w=.ok v' w'∧w'.ownsRow C.base e sz v' (n+s.elems.length) (vs++us)∧w.grownBy w' v.ownBlock∧(v'.ownBlock=v.ownBlock∨v'.ownBlock=some w.heap.size)∧
    RelL w (Zaz C h L) h L (Zai s.elems) us∧(∀c∈us,c.oneCell'=true)∧(∀x∈s.elems,x.flat.length=sz):=by
   intro hb hu v n vs hown hle
   obtain⟨ad,c,us,hyv,hrel,h1,hf,hul,hcl,hnone⟩:=hun' hb hu
   have hbb:(n+s.elems.length)*i.bytes≤140737488355328:=by
    have:=Nat.mul_le_mul hle hby;omega
   cases ad with
   |none=>
    have he:=hnone rfl
    have hus:us=[]:=List.eq_nil_of_length_eq_zero (by rw[hul,he];simp)
    subst hus
    refine⟨v,w,[],?_,by rw[he];simpa using hown,⟨rfl,rfl,rfl,Nat.le_refl _,fun _ _ _=>rfl⟩, .inl rfl,hrel,by simp,hf⟩
    rw[hyv,he]
    rcases hown.2 with⟨rfl,h0⟩ |⟨g,cap,cur,rfl,_,_,hnc,_⟩
    ·simp[Builtin.append_,Zay ht,sizeOf,typeInfo,hi,Builtin.lenOf,Builtin.firstCells]
    ·simp[Builtin.append_,Zay ht,sizeOf,typeInfo,hi,Builtin.lenOf,Builtin.firstCells,hnc,storeCells]
   |some ad=>
    obtain⟨v',w',e1,e2,e3,_,e5⟩:=run_append_own_at (P:=C.P) w C.base t o.type e i zv sz i.bytes ht hi hz hsz rfl hzs hpos v n vs hown ad s.elems.length c us hul (hcl ad rfl) h1 (by simp[maxLen];omega) hbb H.hbase
    exact⟨v',w',us,by rw[hyv];exact e1,e2,e3,e5,hrel,h1,hf⟩
  -- onto a slice without room
  have step0:b=true→s.unit std sz=true→∀ad0:Option Addr,s.elems.length≤4294967296→(s.elems=[]∧(Builtin.append_ #[t,t] o.type #[.slice ad0 0 0,ev y']).run C.P w=.ok (.slice ad0 0 0) w)∨
   ∃cap w' us,(Builtin.append_ #[t,t] o.type #[.slice ad0 0 0,ev y']).run C.P w=.ok (.slice (some ⟨w.heap.size,0,none⟩) s.elems.length cap) w'∧w'.ownsRow C.base e sz (.slice (some ⟨w.heap.size,0,none⟩) s.elems.length cap) s.elems.length us∧w.grownBy w' none∧
    RelL w (Zaz C h L) h L (Zai s.elems) us∧(∀c∈us,c.oneCell'=true)∧(∀x∈s.elems,x.flat.length=sz):=by
   intro hb hu ad0 hle
   obtain⟨ad,c,us,hyv,hrel,h1,hf,hul,hcl,hnone⟩:=hun' hb hu
   by_cases hne:s.elems=[]
   ·refine .inl ⟨hne,?_⟩
    rw[hyv,hne]
    cases ad<;>cases ad0<;>simp[Builtin.append_,Zay ht,sizeOf,typeInfo,hi,Builtin.lenOf,Builtin.firstCells,storeCells,loadCells,loadCellsFrom]
   ·have hlp:0<s.elems.length:=List.length_pos_iff.2 hne
    cases ad with
    |none=>exact absurd (hnone rfl) hne
    |some a'=>
     have hbb:(0+s.elems.length)*i.bytes≤140737488355328:=by
      have:=Nat.mul_le_mul hle hby;rw[Nat.zero_add];omega
     cases ad0 with
     |none=>
      obtain⟨v',w',us',e1,e2,e3,e4,e5,e6,e7⟩:=step hb hu (.slice none 0 0) 0 [] (World.ownsRow_nil _ _ _ _) (by omega)
      rw[Nat.zero_add,List.nil_append]at e2
      obtain⟨g,cap,rfl⟩:∃g cap,v'=.slice (some ⟨g,0,none⟩) s.elems.length cap:=by
       rcases e2.2 with⟨_,h0⟩ |⟨g,cap,cur,rfl,_⟩
       ·omega
       ·exact⟨g,cap,rfl⟩
      simp only[Value.ownBlock,reduceCtorEq,false_or,zS]at e4 e3
      subst e4
      exact .inr ⟨cap,w',us',e1,e2,e3,e5,e6,e7⟩
     |some b0=>
      have hr:=run_append_grow (P:=C.P) w t o.type e i zv ht hi hz b0 0 0 [] (by simp) (by simp) a' s.elems.length c us (by rw[hsz];exact hul) (hcl a' rfl) (by omega) (by omega) (growslice_fits (by omega) hbb)
      rw[Nat.zero_add]at hr
      obtain⟨o1,o2⟩:=ZmE w C.base e zv sz s.elems.length 0 us hzs hul H.hbase (by simp[maxLen];omega)
      exact .inr ⟨_,_,us,by rw[hyv];exact hr,o1,o2,hrel,h1,hf⟩
  split at hv
  · -- onto nil
    have hxv:ev x'=.slice none 0 0:=by generalize ev x'=xv at rx;cases rx;rfl
    split at hv
    ·simp only[zS,zP,std_and]at hv
     obtain⟨⟨rfl,hu⟩,rfl,rfl⟩:=hv
     obtain⟨ad,c,us,hyv,hrel,h1,hf,hul,hcl,hnone⟩:=hun' rfl hu
     refine .pure H (hrun _ (.slice none 0 0) w hxv ?_) .nils
     rw[hyv]
     cases ad<;>simp[Builtin.append_,Zay ht,sizeOf,typeInfo,hi,Builtin.lenOf,Builtin.firstCells,Row.elems,loadCells,loadCellsFrom]
    ·simp only[zS,zP,std_and]at hv
     obtain⟨⟨⟨rfl,hu⟩,hle,hne⟩,rfl,rfl⟩:=hv
     have hle:s.elems.length≤4294967296:=by rw[Row.len_std]at hle;simpa[std]using hle
     have hne:0<s.elems.length:=by rw[Row.len_std]at hne;simpa[std]using hne
     obtain⟨v',w',us,e1,e2,e3,e4,e5,e6,e7⟩:=step rfl hu (.slice none 0 0) 0 [] (World.ownsRow_nil _ _ _ _) (by omega)
     obtain⟨g,cap,rfl⟩:∃g cap,v'=.slice (some ⟨g,0,none⟩) (0+s.elems.length) cap:=by
      rcases e2.2 with⟨_,h0⟩ |⟨g,cap,cur,rfl,_⟩
      ·omega
      ·exact⟨g,cap,rfl⟩
     simp only[Value.ownBlock,reduceCtorEq,false_or,zS]at e4
     obtain⟨L',s',H',rr⟩:=Zee (w':=w') H (fun _ _=>False) h (fun _=>rfl) (fun _ _=>.inr ⟨fun e=>e,rfl⟩) (a:=a) (e:=e) (sz:=sz) (r:=s) e2 (by simp) (by simpa using e5) e7 (by simpa using e6) hpos e3 (fun k hk=>by cases hk) (fun b j hk=>hk.elim) (.inl (by omega))
     exact⟨w',L',_, .inl (hrun _ _ _ hxv e1),s',H',fun _=>rr⟩
  ·rename_i c j
   split at hv
   ·rename_i e' sz' r hcz hbk
    simp only[zS,zP,std_and]at hv
    obtain⟨⟨⟨rfl,hu⟩,he,hs,hle⟩,rfl,rfl⟩:=hv
    have he:e'=e:=by simpa[std]using he
    have hs:sz'=sz:=by simpa[std]using hs
    subst he;subst hs
    have hle:r.elems.length+s.elems.length≤4294967296:=by rw[Row.len_std,Row.len_std]at hle;simpa[std]using hle
    obtain⟨htg,g0,g1,g2,g3⟩:=H.rowAt hbk
    have hnd:blk h c j≠ .dead:=by rw[hbk];simp
    obtain⟨k1,k2⟩:=Zdb hnd
    generalize hxv:ev x'=xv at rx
    cases rx with
    |row _ _ ad n cc hn hl=>
     obtain⟨had,rfl,rfl⟩:=hl.2 _ htg
     by_cases hs0:L.size c j=0
     ·have hre:r.elems=[]:=List.eq_nil_of_length_eq_zero (by omega)
      have hxv:ev x'=.slice ad 0 0:=by rw[hxv,hs0];simp[hre]
      rcases step0 rfl hu ad (by omega)with⟨he,e1⟩ |⟨cap,w',us,e1,e2,e3,e5,e6,e7⟩
      ·obtain⟨L',s',H',rr⟩:=ZcO H (fun b i=>b=c∧i=j) (ZaY h c j .dead) k1 k2 (a:=a) (e:=e') (sz:=sz') (r:=r.app std s) (by rw[Row.app_std,hre,he];rfl) g0
       rw[k1]
       exact⟨w,L',_, .inl (hrun _ _ _ hxv e1),s',H',fun _=>rr ad⟩
      ·obtain⟨L',s',H',rr⟩:=Zee (w':=w') H (fun b i=>b=c∧i=j) (ZaY h c j .dead) k1 k2 (a:=a) (e:=e') (sz:=sz') (r:=r.app std s) e2 (by rw[Row.app_std,hre];rfl) (by rw[Row.app_std,hre];exact e5)
        (by rw[Row.app_std,hre];exact e7) e6 g0 e3 (fun k hk=>by cases hk) (fun b i hk ht=>by obtain⟨rfl,rfl⟩:=hk;exact H.far ht (Zdt hcz)) (.inl (Nat.le_refl _))
       rw[k1]
       exact⟨w',L',_, .inl (hrun _ _ _ hxv e1),s',H',fun _=>rr⟩
     obtain⟨hpl,cur,h4,h5,h6,h7,h8⟩:=H.curAt hbk hs0
     have had:=had hs0
     subst had
     have hown:w.ownsRow C.base e' sz' (.slice (some ⟨L.loc c j,0,none⟩) r.elems.length (L.size c j)) r.elems.length (cur.toList.take (r.elems.length*sz')):=
      ⟨by rw[←h6.1,Zax g3], .inr ⟨_,_,cur,rfl,(H.live c j hpl).1,h4,g2,g1,h5,rfl⟩⟩
     obtain⟨v',w',us,e1,e2,e3,e4,e5,e6,e7⟩:=step rfl hu _ _ _ hown hle
     obtain⟨g,cap,rfl⟩:∃g cap,v'=.slice (some ⟨g,0,none⟩) (r.elems.length+s.elems.length) cap:=by
      rcases e2.2 with⟨rfl,h0⟩ |⟨g,cap,cur,rfl,_⟩
      ·simp[Value.ownBlock]at e4
      ·exact⟨g,cap,rfl⟩
     simp only[Value.ownBlock,zS]at e3 e4
     obtain⟨L',s',H',rr⟩:=Zee (w':=w') H (fun b i=>b=c∧i=j) (ZaY h c j .dead) k1 k2 (a:=a) (e:=e') (sz:=sz') (r:=r.app std s) e2 (by rw[Row.app_std,List.length_append]) (by rw[Row.app_std,ZaI];exact h6.append e5)
      (by rw[Row.app_std];exact ZoC g3 e7) (fun c hc=>by
        rcases List.mem_append.1 hc with hc |hc
        ·exact h7 c hc
        ·exact e6 c hc) g0 e3 (fun k hk=>⟨c,j,⟨rfl,rfl⟩,hpl,by cases hk;rfl⟩) (fun b i hk ht=>by obtain⟨rfl,rfl⟩:=hk;exact H.far ht (Zdt hcz)) (by
        rcases e4 with e4 |e4
        ·exact .inr (by rw[e4])
        ·exact .inl (by omega))
     rw[k1]
     exact⟨w',L',_, .inl (hrun _ _ _ hxv e1),s',H',fun _=>rr⟩
   ·cases hv
  ·rename_i c j n
   split at hv
   ·rename_i e' sz' r hbk
    simp only[zS,zP,std_and]at hv
    obtain⟨⟨⟨rfl,hu⟩,he,hs,hle,hrp⟩,rfl,rfl⟩:=hv
    have he:e'=e:=by simpa[std]using he
    have hs:sz'=sz:=by simpa[std]using hs
    subst he;subst hs
    have hle:n+s.elems.length≤r.elems.length:=by rw[Row.len_std,Row.len_std]at hle;simpa[std]using hle
    have hrp:0<r.elems.length:=by rw[Row.len_std]at hrp;simpa[std]using hrp
    obtain⟨ad,c',us,hyv,hrel,h1,hf,hul,hcl,hnone⟩:=hun' rfl hu
    obtain⟨htg,g0,g1,g2,g3⟩:=H.rowAt hbk
    have hsz0:L.size c j≠0:=by omega
    have hel:(r.blit std n s).elems=spl r.elems n s.elems:=Row.blit_std _ _ _
    have hfl':Zai (r.blit std n s).elems=spl (Zai r.elems) (n*sz') (Zai s.elems):=by
     rw[hel];unfold spl
     rw[ZaI,ZaI,Za8 _ _ g3,Zbh _ _ g3,Zax hf,Nat.add_mul]
    have hlen:(r.blit std n s).elems.length=r.elems.length:=by rw[hel,Za1 hle]
    have hff:∀x∈(r.blit std n s).elems,x.flat.length=sz':=fun x hx=>by
     rw[hel]at hx
     rcases ZgH hx with hx |hx
     ·exact g3 x hx
     ·exact hf x hx
    obtain⟨cur,h4',hfit,hst,H'⟩:=H.write hbk hsz0 (r':=r.blit std n s) hfl' hlen hff (by rw[Zax hf,←Nat.add_mul];exact Nat.mul_le_mul_right _ hle) hrel h1
    generalize hxv:ev x'=xv at rx
    cases rx with
    |slc _ _ _ _ _ ad0 cc hn hl=>
     rcases hl.2 _ htg with⟨h0,_⟩ |⟨h0,_⟩ |⟨rfl,hkc,hcc⟩
     ·exact absurd rfl h0
     ·exact absurd h0 hsz0
     have hcc:cc=L.size c j:=by simpa using hcc
     subst hcc
     have hroom:n+s.elems.length≤L.size c j:=by omega
     have htag:∀sz,(blk (ZaY h c j (.row e' sz' (r.blit std n s))) c j).tag=some sz→sz=(sz',r.elems.length):=fun sz hsz=>by
      rw[Zcm (by rw[hbk];simp),if_pos ⟨rfl,rfl⟩]at hsz
      simp only[Blk.tag,hlen,zS]at hsz
      exact hsz.symm
     refine⟨_,L, .slice (some ⟨L.loc c j,0*sz',none⟩) (n+s.elems.length) (L.size c j), .inl (hrun _ _ _ hxv ?_),hst,H',fun _=>?_⟩
     ·cases ad with
      |none=>
       have he:=hnone rfl
       have hus:us=[]:=List.eq_nil_of_length_eq_zero (by rw[hul,he];simp)
       subst hus
       have hw:w.setRow (L.loc c j) (spl cur.toList (n*sz') []).toArray=w:=by
        have:(spl cur.toList (n*sz') ([]:List Value)).toArray=cur:=by simp[spl]
        rw[this];exact setRow_self w _ cur e' (0,0) h4'
       rw[hw,hyv,he]
       simp[Builtin.append_,Zay ht,sizeOf,typeInfo,hi,Builtin.lenOf,Builtin.firstCells,storeCells,hn]
      |some ad=>
       have hra:=run_append_room (P:=C.P) w t o.type e' i ht hi (L.loc c j) n (L.size c j) cur h4' ad s.elems.length c' us (by rw[hsz];exact hul) (hcl ad rfl) h1 hroom (by rw[hsz];exact hfit)
       rw[hsz]at hra
       rw[hyv,Nat.zero_mul]
       exact hra
     ·rw[Row.len_std]
      refine .slc _ _ _ _ _ _ _ hroom ⟨by rw[ZdJ];exact hl.1,fun sz hsz=>?_⟩
      have:=htag sz hsz
      subst this
      exact .inr (.inr ⟨rfl,by omega,by simp⟩)
   ·cases hv
  ·cases hv
theorem ZpV(H:HRel C h L w){a:Nat}{t tn e:TypeId}{sz:Nat}{z x:AV}{zv:Value}{i:TypeInfo}{kn kd:IntKind}{n:Int}{x' l':Operand}(ho:o.op=.call { callee:=.builtin .append,args:= #[x',l'],argTypes:= #[t,tn] })(rx:ZaH C h L w x (ev x'))(e1:ev l'=.int kd n)
 (ht:C.P.underlying t=some (.slice e)) (htn:C.P.underlying tn=some (.int kn)) (hi:C.P.info? e=some i) (hz:i.zero=some zv) (hzm:ZdG z zv=true) (hzs:zv.cells.size=sz) (hsz:i.size=sz) (hpos:0<sz) (hby:i.bytes≤32768) (hzl:z.flat.length=sz) (hzb:z.bx=true)
 (hv:ZtZ std h a e sz z x n=some (true,v,h')):Snd C h L w ev o h' v:=by
 have hzr:ZaH C h L w z zv:=Zcv hzm
 obtain⟨hz1,hz2⟩:=hzr.cells hzb
 have hrel:∀m:Nat,RelL w (Zaz C h L) h L (Zai (List.replicate m z)) (List.replicate m zv.cells.toList).flatten:=by
  intro m
  induction m with
  |zero=>exact RelL.nil
  |succ m ih=>simp only[List.replicate_succ,List.flatten_cons];rw[ZaL];exact hz1.append ih
 have hone:∀(m:Nat),∀c∈(List.replicate m zv.cells.toList).flatten,c.oneCell'=true:=by
  intro m c hc
  obtain⟨l,hl,hcl⟩:=List.mem_flatten.1 hc
  rw[List.eq_of_mem_replicate hl]at hcl
  exact hz2 c (by simpa using hcl)
 have hrun:∀v v' w',ev x'=v→(Builtin.append_ #[t,tn] o.type #[v, .int kd n]).run C.P w=.ok v' w'→(execOp ev o).run C.P w=.ok (.value v') w':=fun v v' w' e2 e3=>by
  simp[execOp,ho,resolve,invoke,builtin,e1,e2,e3]
 have step:0≤n→∀(v:Value) (k:Nat) (vs:List Value),w.ownsRow C.base e sz v k vs→k+n.toNat≤4294967296→
  ∃v' w',(Builtin.append_ #[t,tn] o.type #[v, .int kd n]).run C.P w=.ok v' w'∧w'.ownsRow C.base e sz v' (k+n.toNat) (vs++(List.replicate n.toNat zv.cells.toList).flatten)∧w.grownBy w' v.ownBlock∧(v'.ownBlock=v.ownBlock∨v'.ownBlock=some w.heap.size):=by
  intro hn v k vs hown hle
  have hbb:(k+n.toNat)*i.bytes≤140737488355328:=by
   have:=Nat.mul_le_mul hle hby;omega
  have hzl:=Ziw zv hzs hpos n.toNat
  obtain⟨v',w',r1,r2,r3,r4⟩:=ZhF (P:=C.P) w C.base t tn o.type e i zv sz i.bytes kd kn ht htn hi hz hsz rfl hzs hpos v k vs hown n.toNat (by rw[hzl];exact hone _) (by simp[maxLen];omega) hbb H.hbase
  have hnn:((n.toNat:Nat):Int)=n:=by omega
  rw[hnn]at r1
  rw[hzl]at r2
  exact⟨v',w',r1,r2,r3,r4⟩
 have hfl:∀(m:Nat),∀y∈(ZnX std m z).elems,y.flat.length=sz:=fun m=>by
  rw[ZbE];intro y hy;rw[List.eq_of_mem_replicate hy];exact hzl
 unfold ZtZ at hv
 split at hv
 ·have hxv:ev x'=.slice none 0 0:=by generalize ev x'=xv at rx;cases rx;rfl
  simp only[zS,zP,std_and]at hv
  obtain⟨⟨h0,hle⟩,rfl,rfl⟩:=hv
  have h0:0<n:=by simpa[std]using h0
  have hle:n≤4294967296:=by simpa[std]using hle
  obtain⟨v',w',r1,r2,r3,r4⟩:=step (by omega) (.slice none 0 0) 0 [] (World.ownsRow_nil _ _ _ _) (by omega)
  obtain⟨g,cap,rfl⟩:∃g cap,v'=.slice (some ⟨g,0,none⟩) (0+n.toNat) cap:=by
   rcases r2.2 with⟨_,h0⟩ |⟨g,cap,cur,rfl,_⟩
   ·omega
   ·exact⟨g,cap,rfl⟩
  simp only[Value.ownBlock,reduceCtorEq,false_or,zS]at r4
  obtain⟨L',s',H',rr⟩:=Zee (w':=w') H (fun _ _=>False) h (fun _=>rfl) (fun _ _=>.inr ⟨fun e=>e,rfl⟩) (a:=a) (e:=e) (sz:=sz) (r:=ZnX std n.toNat z) r2 (by rw[ZbE,List.length_replicate];omega) (by rw[ZbE];simpa using hrel n.toNat) (hfl _) (by simpa using hone n.toNat) hpos r3 (fun k hk=>by cases hk) (fun b j hk=>hk.elim) (.inl (by omega))
  exact⟨w',L',_, .inl (hrun _ _ _ hxv r1),s',H',fun _=>rr⟩
 ·rename_i c j
  split at hv
  ·rename_i e' sz' r hcz hbk
   simp only[zS,zP,std_and]at hv
   obtain⟨⟨h0,he,hs,hle⟩,rfl,rfl⟩:=hv
   have h0:0≤n:=by simpa[std]using h0
   have he:e'=e:=by simpa[std]using he
   have hs:sz'=sz:=by simpa[std]using hs
   subst he;subst hs
   have hle:r.elems.length+n.toNat≤4294967296:=by rw[Row.len_std]at hle;simpa[std]using hle
   obtain⟨htg,g0,g1,g2,g3⟩:=H.rowAt hbk
   have hnd:blk h c j≠ .dead:=by rw[hbk];simp
   obtain⟨k1,k2⟩:=Zdb hnd
   generalize hxv:ev x'=xv at rx
   cases rx with
   |row _ _ ad n' cc hn hl=>
    obtain⟨had,rfl,rfl⟩:=hl.2 _ htg
    by_cases hs0:L.size c j=0
    ·have hre:r.elems=[]:=List.eq_nil_of_length_eq_zero (by omega)
     have hxv:ev x'=.slice ad 0 0:=by rw[hxv,hs0];simp[hre]
     by_cases hn0:n.toNat=0
     ·have hn00:n=0:=by omega
      obtain⟨L',s',H',rr⟩:=ZcO H (fun b i=>b=c∧i=j) (ZaY h c j .dead) k1 k2 (a:=a) (e:=e') (sz:=sz') (r:=r.app std (ZnX std n.toNat z)) (by rw[Row.app_std,hre,ZbE,hn0];rfl) g0
      rw[k1]
      refine⟨w,L',_, .inl (hrun _ _ _ hxv ?_),s',H',fun _=>rr ad⟩
      subst hn00
      have hw0:IntKind.i64.wrap 0=0:=by rw[IntKind.wrap_i64];rfl
      cases ad<;>simp[Builtin.append_,Zay ht,Zay htn,sizeOf,typeInfo,hi,hz,Builtin.lenOf,Builtin.firstCells,storeCells,asInt,asIntOf,hw0,zeroValue,Builtin.zeroCells]
     ·have hbb:(0+n.toNat)*i.bytes≤140737488355328:=by
       have:=Nat.mul_le_mul (show 0+n.toNat≤4294967296 by omega) hby;omega
      have hb1:n.toNat*i.bytes≤140737488355328:=by rw[Nat.zero_add]at hbb;exact hbb
      have hr:=Go.Lib.run_append_grow_zeros (P:=C.P) w t tn o.type e' i zv kd kn ht htn hi hz ad 0 0 [] (by cases ad<;>simp[Builtin.firstCells,loadCells,loadCellsFrom]) n.toNat (by omega) (by omega) (by omega) (by omega) (by omega) (growslice_fits (by omega) hbb)
      have hnn:((n.toNat:Nat):Int)=n:=by omega
      rw[hnn,Nat.zero_add]at hr
      have hzl2:=Ziw zv hzs hpos n.toNat
      have hza:Builtin.zeroCells zv.cells n.toNat=((List.replicate n.toNat zv.cells.toList).flatten).toArray:=by rw[←hzl2]
      rw[hza]at hr
      obtain⟨o1,o2⟩:=ZmE w C.base e' zv sz' n.toNat 0 (List.replicate n.toNat zv.cells.toList).flatten hzs (by rw[←hzl2,Array.length_toList,size_zeroCells,hzs]) H.hbase (by simp[maxLen];omega)
      obtain⟨L',s',H',rr⟩:=Zee H (fun b i=>b=c∧i=j) (ZaY h c j .dead) k1 k2 (a:=a) (e:=e') (sz:=sz') (r:=r.app std (ZnX std n.toNat z)) o1 (by rw[Row.app_std,hre,ZbE];simp) (by rw[Row.app_std,hre,ZbE];exact hrel _)
       (by rw[Row.app_std,hre];exact hfl _) (hone _) g0 o2 (fun k hk=>by cases hk) (fun b i hk ht=>by obtain⟨rfl,rfl⟩:=hk;exact H.far ht (Zdt hcz)) (.inl (Nat.le_refl _))
      rw[k1]
      exact⟨_,L',_, .inl (hrun _ _ _ hxv hr),s',H',fun _=>rr⟩
    obtain⟨hpl,cur,h4,h5,h6,h7,h8⟩:=H.curAt hbk hs0
    have had:=had hs0
    subst had
    have hown:w.ownsRow C.base e' sz' (.slice (some ⟨L.loc c j,0,none⟩) r.elems.length (L.size c j)) r.elems.length (cur.toList.take (r.elems.length*sz')):=
     ⟨by rw[←h6.1,Zax g3], .inr ⟨_,_,cur,rfl,(H.live c j hpl).1,h4,g2,g1,h5,rfl⟩⟩
    obtain⟨v',w',r1,r2,r3,r4⟩:=step h0 _ _ _ hown hle
    obtain⟨g,cap,rfl⟩:∃g cap,v'=.slice (some ⟨g,0,none⟩) (r.elems.length+n.toNat) cap:=by
     rcases r2.2 with⟨rfl,h0⟩ |⟨g,cap,cur,rfl,_⟩
     ·simp[Value.ownBlock]at r4
     ·exact⟨g,cap,rfl⟩
    simp only[Value.ownBlock,zS]at r3 r4
    obtain⟨L',s',H',rr⟩:=Zee (w':=w') H (fun b i=>b=c∧i=j) (ZaY h c j .dead) k1 k2 (a:=a) (e:=e') (sz:=sz') (r:=r.app std (ZnX std n.toNat z)) r2 (by rw[Row.app_std,List.length_append,ZbE,List.length_replicate]) (by rw[Row.app_std,ZaI,ZbE];exact h6.append (hrel _))
     (by rw[Row.app_std];exact ZoC g3 (hfl _)) (fun c hc=>by
       rcases List.mem_append.1 hc with hc |hc
       ·exact h7 c hc
       ·exact hone _ c hc) g0 r3 (fun k hk=>⟨c,j,⟨rfl,rfl⟩,hpl,by cases hk;rfl⟩) (fun b i hk ht=>by obtain⟨rfl,rfl⟩:=hk;exact H.far ht (Zdt hcz)) (by
       rcases r4 with e4 |e4
       ·exact .inr (by rw[e4])
       ·exact .inl (by omega))
    rw[k1]
    exact⟨w',L',_, .inl (hrun _ _ _ hxv r1),s',H',fun _=>rr⟩
  ·cases hv
 ·cases hv
end
end Go.Proofs.YtkeoeooghhjibaaGreatDoor
namespace Go.Proofs.YtkeoeooghhjibaaGreatDoor
open Go.RowKit (Below)
section
variable {C:Ctx}{o:Oper}{ρ:Opd→AV}{ev:Operand→Value}{h h':Zad}{w w':World}{L:Lay}{v:AV}{P:Program}
theorem Zb5(s:Row)(m:Nat):(s.sub std 0 m).elems=s.elems.take m:=by rw[Row.sub_std];simp[sub3]
theorem ZeH{sz:Nat}{xs:zA}(hf:∀x∈xs,x.flat.length=sz)(m:Nat):∀x∈xs.take m,x.flat.length=sz:=fun x hx=>hf x (List.mem_of_mem_take hx)
theorem ZiR(H:HRel C h L w){t e:TypeId}{i:TypeInfo}{sz:Nat}{y:AV}{x' y':Operand}(ho:o.op=.call { callee:=.builtin .copy,args:= #[x',y'],argTypes:= #[t,t] })(ry:ZaH C h L w y (ev y')){s:Row}(hcont:ZbP std h y=some (true,s))(hu:s.unit std sz=true)
 (ht:C.P.underlying t=some (.slice e)) (hi:C.P.info? e=some i) (hsz:i.size=sz) {a j e' sz':Nat} {r r':Row} (hbk:blk h a j=.row e' sz' r) (hs0:L.size a j≠0) {q n:Nat} {cap:Nat}
 (hx:ev x'=.slice (some ⟨L.loc a j,q,none⟩) n cap) (hfl:Zai r'.elems=spl (Zai r.elems) q (Zai (s.elems.take (min s.elems.length n)))) (hlen:r'.elems.length=r.elems.length) (hff:∀x∈r'.elems,x.flat.length=sz') (hq:q+(min s.elems.length n)*sz≤r.elems.length*sz'):
 Snd C h L w ev o (ZaY h a j (.row e' sz' r')) (.int .i64 (std.int (min (s.len std) n))):=by
 obtain⟨ad,c',us,hyv,hrel,h1,hf,hul,hcl,hnone⟩:=Zkk H ry hcont hu
 have hmin:(min s.elems.length n)≤s.elems.length:=Nat.min_le_left _ _
 have hrel':=hrel.take (min s.elems.length n*sz)
 rw[←Za8 _ _ hf]at hrel'
 have htl:(us.take (min s.elems.length n*sz)).length=min s.elems.length n*sz:=by rw[List.length_take,hul];exact Nat.min_eq_left (Nat.mul_le_mul_right _ hmin)
 have h1':∀c∈us.take (min s.elems.length n*sz),c.oneCell'=true:=fun c hc=>h1 c (List.mem_of_mem_take hc)
 obtain⟨cur,h4,hfit,hst,H'⟩:=H.write hbk hs0 (r':=r') hfl hlen hff (by rw[hrel'.1,htl];exact hq) hrel' h1'
 refine⟨_,L, .int .i64 (min s.elems.length n:Nat), .inl ?_,hst,H',fun _=>by rw[Row.len_std];exact .int _ _⟩
 cases ad with
 |none=>
  have he:=hnone rfl
  have hus:us=[]:=List.eq_nil_of_length_eq_zero (by rw[hul,he];simp)
  subst hus
  have hw:w.setRow (L.loc a j) (spl cur.toList q (([]:List Value).take (min s.elems.length n*sz))).toArray=w:=by
   have:(spl cur.toList q (([]:List Value).take (min s.elems.length n*sz))).toArray=cur:=by simp[spl]
   rw[this];exact setRow_self w _ cur e' (0,0) h4
  rw[hw,he]
  simp[execOp,ho,resolve,invoke,builtin,hx,hyv,he,Builtin.copy_,Zay ht,Builtin.lenOf,Builtin.firstCells,sizeOf,typeInfo,hi,storeCells,goInt]
 |some ad=>
  have hl:=run_loadCells_list (P:=C.P) w ad (us.take (min s.elems.length n*sz)) (fun j v hj=>by
   rw[List.getElem?_take]at hj
   split at hj
   ·exact hcl ad rfl j v hj
   ·cases hj)
  rw[htl]at hl
  have hst:=run_storeCells_at C.P (L.loc a j) q e' (us.take (min s.elems.length n*sz)) 0 cur w h4 (by simpa using hfit) h1'
  simp only[Nat.add_zero]at hst
  simp[execOp,ho,resolve,invoke,builtin,hx,hyv,Builtin.copy_,Zay ht,Builtin.lenOf,Builtin.firstCells,sizeOf,typeInfo,hi,hsz,hl,hst,goInt,spl]
theorem HRel.rerel(H:HRel C h L w){a j e sz:Nat}{r r':Row}(hbk:blk h a j=.row e sz r)(hlen:r'.elems.length=r.elems.length)(hf:∀x∈r'.elems,x.flat.length=sz)(hx:∀cs,RelL w (Zaz C h L) h L (Zai r.elems) cs→RelL w (Zaz C h L) h L (Zai r'.elems) cs):
 Step w (Zaz C h L) h L w (Zaz C (ZaY h a j (.row e sz r')) L) (ZaY h a j (.row e sz r')) L∧HRel C (ZaY h a j (.row e sz r')) L w:=by
 obtain⟨htg,g0,g1,g2,g3⟩:=H.rowAt hbk
 have hnd:blk h a j≠ .dead:=by rw[hbk];simp
 have hblk:∀c i,blk (ZaY h a j (.row e sz r')) c i=if a=c∧j=i then .row e sz r' else blk h c i:=fun c i=>Zcm hnd c i _
 have htag:∀c i,(blk (ZaY h a j (.row e sz r')) c i).tag=(blk h c i).tag:=fun c i=>by
  rw[hblk];split
  ·rename_i e';obtain⟨rfl,rfl⟩:=e';rw[htg];simp[Blk.tag,hlen]
  ·rfl
 have hp:∀c i,Plc (ZaY h a j (.row e sz r')) L c i→Plc h L c i:=fun c i p=>p.to (htag c i).symm rfl
 have hs:Step w (Zaz C h L) h L w (Zaz C (ZaY h a j (.row e sz r')) L) (ZaY h a j (.row e sz r')) L:=by
  refine⟨Nat.le_refl _,fun k hk ho=>⟨?_,rfl⟩,fun c=>by rw[ZdJ];exact Nat.le_refl _,fun c i sz _ htt=>⟨by rw[←htag];exact htt,rfl,rfl⟩⟩
  rcases ho with ho |⟨h1,h2⟩
  ·exact .inl ho
  ·exact .inr ⟨h1,fun c i hc=>h2 c i (hp c i hc)⟩
 refine⟨hs,H.below,fun c i p=>H.live c i (hp c i p),fun c i=>?_,fun c i b k h1 h2 e=>H.inj c i b k (hp c i h1) (hp b k h2) e,fun c i p=>H.home c i (hp c i p),H.low,H.base,H.good⟩
 rw[hblk]
 split
 ·rename_i e'
  obtain⟨rfl,rfl⟩:=e'
  refine⟨g0,g1,by rw[hlen];exact g2,hf,fun hn=>?_⟩
  obtain⟨_,cur,h4,h5,h6,h7,_⟩:=H.curAt hbk hn
  exact⟨cur,h4,h5,by rw[hlen];exact(hx _ h6).step hs,by rw[hlen];exact h7⟩
 ·exact(H.blks c i).step hs fun _=>rfl
theorem HRel.same(H:HRel C h L w){a j e sz:Nat}{r r':Row}(hbk:blk h a j=.row e sz r)(hr0:r'.elems=r.elems):
 Step w (Zaz C h L) h L w (Zaz C (ZaY h a j (.row e sz r')) L) (ZaY h a j (.row e sz r')) L∧HRel C (ZaY h a j (.row e sz r')) L w:=
 H.rerel hbk (by rw[hr0]) (by rw[hr0];exact(H.rowAt hbk).2.2.2.2) (fun cs hc=>by rw[hr0];exact hc)
theorem HRel.shrink(H:HRel C h L w){a j e sz m:Nat}{r:Row}(hbk:blk h a j=.row e sz r)(hz:a≠0)(hm:m≤r.elems.length):
 ∃L',Step w (Zaz C h L) h L w (Zaz C (Zal (ZaY h a j .dead) a (.row e sz (r.sub std 0 m))) L') (Zal (ZaY h a j .dead) a (.row e sz (r.sub std 0 m))) L'∧HRel C (Zal (ZaY h a j .dead) a (.row e sz (r.sub std 0 m))) L' w∧
  ∀v,ZaH C h L w (.slc a j 0 m none) v→ZaH C (Zal (ZaY h a j .dead) a (.row e sz (r.sub std 0 m))) L' w (.row a (nxt (ZaY h a j .dead) a)) v:=by
 obtain⟨htg,g0,g1,g2,g3⟩:=H.rowAt hbk
 have hnd:blk h a j≠ .dead:=by rw[hbk];simp
 obtain⟨k1,k2⟩:=Zdb hnd
 have hel:(r.sub std 0 m).elems=r.elems.take m:=Zb5 r m
 rw[k1]
 by_cases hs0:L.size a j=0
 ·obtain⟨L',s',H',rr⟩:=ZcO H (fun b i=>b=a∧i=j) (ZaY h a j .dead) k1 k2 (a:=a) (e:=e) (sz:=sz) (r:=r.sub std 0 m) (by rw[hel,List.eq_nil_of_length_eq_zero (show r.elems.length=0 by omega)];simp) g0
  refine⟨L',s',H',fun v hv=>?_⟩
  cases hv with
  |slc _ _ _ _ _ ad c hn hl=>
   rcases hl.2 _ htg with⟨h0,_⟩ |⟨_,h0⟩ |⟨_,h0,_⟩
   ·exact absurd rfl h0
   ·obtain rfl:m=0:=by omega
    rw[h0];exact rr ad
   ·obtain rfl:m=0:=by omega
    obtain rfl:c=0:=by omega
    exact rr ad
 ·obtain⟨hpl,cur,h4,h5,h6,h7,_⟩:=H.curAt hbk hs0
  have hle:m*sz≤r.elems.length*sz:=Nat.mul_le_mul_right _ hm
  have hfl:Zai (r.sub std 0 m).elems=(Zai r.elems).take (m*sz):=by rw[hel];exact Za8 _ _ g3
  have hll:(r.sub std 0 m).elems.length=m:=by rw[hel,List.length_take];omega
  obtain⟨s,H'⟩:=H.pushK (w':=w) (fun b i=>b=a∧i=j) (ZaY h a j .dead) k1 k2 a (.row e sz (r.sub std 0 m)) (L.loc a j) (L.size a j) (Below.refl _ _) (fun _ _ _=>rfl) (fun _=>.inr ⟨a,j,⟨rfl,rfl⟩,hpl,rfl⟩) (fun _=>H.far hpl hz)
   (fun s=>⟨g0,g1,by rw[hll];omega,fun x hx=>g3 x (List.mem_of_mem_take (by rw[hel]at hx;exact hx)),fun _=>⟨cur,h4,h5,by
     rw[hll,hfl]
     have:=(h6.take (m*sz)).step s
     rwa[List.take_take,Nat.min_eq_left hle]at this,fun c hc=>h7 c (by
     rw[hll]at hc
     exact List.mem_of_mem_take (by rw[List.take_take,Nat.min_eq_left hle];exact hc))⟩⟩)
  refine⟨_,s,H',fun v hv=>?_⟩
  have hp:=ZhM (ZaY h a j .dead) a (.row e sz (r.sub std 0 m))
  rw[k1]at hp
  cases hv with
  |slc _ _ _ _ _ ad c hn hl=>
   rcases hl.2 _ htg with⟨h0,_⟩ |⟨h0,_⟩ |⟨rfl,h0,h1⟩
   ·exact absurd rfl h0
   ·exact absurd h0 hs0
   ·refine .row _ _ _ _ _ hn ⟨by rw[Zcs,if_pos rfl,k1];omega,fun s hs=>?_⟩
    rw[hp]at hs
    cases hs
    exact⟨fun _=>by rw[Lay.put_loc];simp,hll.symm,by rw[Lay.put_size];simpa using h1⟩
theorem Zp1(H:HRel C h L w){t e:TypeId}{i:TypeInfo}{sz:Nat}{x y:AV}{x' y':Operand}(ho:o.op=.call { callee:=.builtin .copy,args:= #[x',y'],argTypes:= #[t,t] })(rx:ZaH C h L w x (ev x'))(ry:ZaH C h L w y (ev y'))
 (ht:C.P.underlying t=some (.slice e)) (hi:C.P.info? e=some i) (hsz:i.size=sz) (hpos:0<sz) (hv:ZuP std h sz x y=some (true,v,h')):Snd C h L w ev o h' v:=by
 unfold ZuP at hv
 split at hv
 ·cases hv
 ·rename_i b s hcont
  generalize hxv:ev x'=xv at rx
  split at hv
  ·rename_i c j
   split at hv
   ·rename_i e' sz' r hbk
    simp only[zS,zP,std_and]at hv
    obtain⟨⟨⟨rfl,hu⟩,hs⟩,rfl,rfl⟩:=hv
    have hs:sz'=sz:=by simpa[std]using hs
    subst hs
    obtain⟨htg,g0,g1,g2,g3⟩:=H.rowAt hbk
    obtain⟨ad,c',us,hyv,_,_,hf,_⟩:=Zkk H ry hcont hu
    cases rx with
    |row _ _ ad0 n cc hn hl=>
     obtain⟨had,rfl,rfl⟩:=hl.2 _ htg
     have hel:(r.blit std 0 (s.sub std 0 (min (s.len std) (r.len std)))).elems=spl r.elems 0 (s.elems.take (min s.elems.length r.elems.length)):=by
      rw[Row.blit_std,Zb5,Row.len_std,Row.len_std];rfl
     have hmin:(s.elems.take (min s.elems.length r.elems.length)).length≤r.elems.length:=by rw[List.length_take];omega
     by_cases hs0:L.size c j=0
     ·have hre:r.elems=[]:=List.eq_nil_of_length_eq_zero (by omega)
      have hr0:(r.blit std 0 (s.sub std 0 (min (s.len std) (r.len std)))).elems=r.elems:=by rw[hel,hre];simp[spl]
      obtain⟨s1,s2⟩:=H.same hbk hr0
      refine⟨w,L, .int .i64 0, .inl ?_,s1,s2,fun _=>by rw[Row.len_std,Row.len_std,hre];simp[std];exact .int _ _⟩
      have hxv:ev x'=.slice ad0 0 0:=by rw[hxv,hs0];simp[hre]
      cases ad with
      |none=>cases ad0<;>simp[execOp,ho,resolve,invoke,builtin,hxv,hyv,Builtin.copy_,Zay ht,Builtin.lenOf,Builtin.firstCells,sizeOf,typeInfo,hi,storeCells,goInt]
      |some a2=>cases ad0<;>simp[execOp,ho,resolve,invoke,builtin,hxv,hyv,Builtin.copy_,Zay ht,Builtin.lenOf,Builtin.firstCells,sizeOf,typeInfo,hi,storeCells,goInt,loadCells,loadCellsFrom]
     have had:=had hs0
     subst had
     have:=ZiR H ho ry hcont hu ht hi hsz hbk hs0 (r':=r.blit std 0 (s.sub std 0 (min (s.len std) (r.len std)))) (q:=0) (n:=r.elems.length) hxv
      (by rw[hel];unfold spl;rw[ZaI,ZaI,Zbh _ _ g3,Zax (ZeH hf _),Nat.zero_add,Nat.zero_add];simp[Zai])
      (by rw[hel,Za1 (by omega)])
      (fun x hx=>by
        rw[hel]at hx
        rcases ZgH hx with hx |hx
        ·exact g3 x hx
        ·exact ZeH hf _ x hx)
      (by rw[Nat.zero_add];exact Nat.mul_le_mul_right _ (Nat.min_le_right _ _))
     rw[Row.len_std r]at this⊢
     exact this
   ·cases hv
  ·rename_i c j k n cp
   split at hv
   ·rename_i e' sz' r hbk
    simp only[zS,zP,std_and]at hv
    obtain⟨⟨⟨rfl,hu⟩,hs,hkn⟩,rfl,rfl⟩:=hv
    have hs:sz'=sz:=by simpa[std]using hs
    subst hs
    have hkn:k+n≤r.elems.length:=by rw[Row.len_std]at hkn;simpa[std]using hkn
    obtain⟨htg,g0,g1,g2,g3⟩:=H.rowAt hbk
    obtain⟨ad,c',us,hyv,_,_,hf,_,_,hnone⟩:=Zkk H ry hcont hu
    have hel:(r.blit std k (s.sub std 0 (min (s.len std) n))).elems=spl r.elems k (s.elems.take (min s.elems.length n)):=by
     rw[Row.blit_std,Zb5,Row.len_std];rfl
    have hmin:k+(s.elems.take (min s.elems.length n)).length≤r.elems.length:=by rw[List.length_take];omega
    have hfl:Zai (r.blit std k (s.sub std 0 (min (s.len std) n))).elems=spl (Zai r.elems) (k*sz') (Zai (s.elems.take (min s.elems.length n))):=by
     rw[hel];unfold spl;rw[ZaI,ZaI,Za8 _ _ g3,Zbh _ _ g3,Zax (ZeH hf _),Nat.add_mul]
    have hff:∀x∈(r.blit std k (s.sub std 0 (min (s.len std) n))).elems,x.flat.length=sz':=fun x hx=>by
     rw[hel]at hx
     rcases ZgH hx with hx |hx
     ·exact g3 x hx
     ·exact ZeH hf _ x hx
    cases rx with
    |slc _ _ _ _ _ ad0 cc hn hl=>
     by_cases hn0:n=0
     · -- nothing is copied
       subst hn0
       have hr0:(r.blit std k (s.sub std 0 (min (s.len std) 0))).elems=r.elems:=by rw[hel];simp[spl]
       obtain⟨s1,s2⟩:=H.same hbk hr0
       refine⟨w,L, .int .i64 0, .inl ?_,s1,s2,fun _=>by rw[Row.len_std];simp[std];exact .int _ _⟩
       cases ad with
       |none=>cases ad0<;>simp[execOp,ho,resolve,invoke,builtin,hxv,hyv,Builtin.copy_,Zay ht,Builtin.lenOf,Builtin.firstCells,sizeOf,typeInfo,hi,storeCells,goInt]
       |some a2=>cases ad0<;>simp[execOp,ho,resolve,invoke,builtin,hxv,hyv,Builtin.copy_,Zay ht,Builtin.lenOf,Builtin.firstCells,sizeOf,typeInfo,hi,storeCells,goInt,loadCells,loadCellsFrom]
     ·rcases hl.2 _ htg with⟨_,h0,_⟩ |⟨_,h0⟩ |⟨rfl,hkc,hcc⟩
      ·exact absurd h0 hn0
      ·exact absurd (by omega) hn0
      exact ZiR H ho ry hcont hu ht hi hsz hbk (by omega) hxv hfl (by rw[hel,Za1 hmin]) hff (by
       rw[←Nat.add_mul];exact Nat.mul_le_mul_right _ (by omega))
   ·cases hv
  ·rename_i c j k off n
   split at hv
   ·rename_i e' sz' r hbk
    split at hv
    ·rename_i us hget0
     simp only[zS,zP,std_and]at hv
     obtain⟨⟨⟨rfl,hu⟩,hk,hs,hsing,hon⟩,rfl,rfl⟩:=hv
     have hs:sz=1:=by simpa[std]using hs
     subst hs
     have hk:k<r.elems.length:=by rw[Row.len_std]at hk;simpa[std]using hk
     have hon:off+n≤us.elems.length:=by rw[Row.len_std]at hon;simpa[std]using hon
     obtain⟨htg,g0,g1,g2,g3⟩:=H.rowAt hbk
     obtain⟨ad,c',us2,hyv,_,_,hf,_,_,hnone⟩:=Zkk H ry hcont hu
     have hget:=Row.get_std hk
     rw[hget0]at hget
     have hul:us.elems.length=sz':=by have:=g3 _ (List.mem_of_getElem? hget);simpa[AV.flat]using this
     have hbl:(us.blit std off (s.sub std 0 (min (s.len std) n))).elems=spl us.elems off (s.elems.take (min s.elems.length n)):=by
      rw[Row.blit_std,Zb5,Row.len_std];rfl
     have htl:(s.elems.take (min s.elems.length n)).length=min s.elems.length n:=by rw[List.length_take];omega
     have hge:k*sz'+sz'≤r.elems.length*sz':=by
      have:=Nat.mul_le_mul_right sz' (Nat.succ_le_of_lt hk)
      rwa[Nat.succ_mul]at this
     have hfa:=Zax g3
     have hsing':∀x∈s.elems.take (min s.elems.length n),x.single=true:=fun x hx=>Row.sing_std hsing x (List.mem_of_mem_take hx)
     have hfl1:=Zbo hsing'
     have hvl:(AV.agg (us.blit std off (s.sub std 0 (min (s.len std) n)))).flat.length=sz':=by
      show(us.blit std off _).elems.length=sz'
      rw[hbl,Za1 (by omega)];exact hul
     have hfl':Zai (r.set std k (.agg (us.blit std off (s.sub std 0 (min (s.len std) n))))).elems=spl (Zai r.elems) (k*sz'+off) (Zai (s.elems.take (min s.elems.length n))):=by
      rw[Row.set_std,Zif g3 hk hvl]
      show spl _ _ (us.blit std off _).elems=_
      rw[hbl,hfl1]
      exact Zsn (by omega) (fun j hj=>ZeJ g3 hget j hj) hul (by omega)
     cases rx with
     |aslc _ _ _ _ _ g oo cc hn hl=>
      rcases hl.2 _ htg with rfl |⟨rfl,rfl⟩
      ·have hw:=H.write hbk (by omega) (r':=r.set std k (.agg (us.blit std off (s.sub std 0 (min (s.len std) 0))))) (q:=0) (xs:=[]) (ys:=[]) (by rw[hfl'];simp[spl,Zai]) (by rw[Row.set_std,List.length_set]) (by rw[Row.set_std];exact Zh6 g3 hvl) (by simp) RelL.nil (by simp)
       obtain⟨cur,h4,_,h6,h7⟩:=hw
       have:(spl cur.toList 0 ([]:List Value)).toArray=cur:=by simp[spl]
       rw[this,setRow_self w _ cur e' (0,0) h4]at h6 h7
       refine⟨w,L, .int .i64 0, .inl ?_,h6,h7,fun _=>by rw[Row.len_std];simp[std];exact .int _ _⟩
       cases ad with
       |none=>simp[execOp,ho,resolve,invoke,builtin,hxv,hyv,Builtin.copy_,Zay ht,Builtin.lenOf,Builtin.firstCells,sizeOf,typeInfo,hi,storeCells,goInt]
       |some a2=>simp[execOp,ho,resolve,invoke,builtin,hxv,hyv,Builtin.copy_,Zay ht,Builtin.lenOf,Builtin.firstCells,sizeOf,typeInfo,hi,storeCells,goInt,loadCells,loadCellsFrom]
      ·exact ZiR H ho ry hcont hu ht hi hsz hbk (by omega) (q:=k*sz'+off) hxv hfl' (by rw[Row.set_std,List.length_set]) (by rw[Row.set_std];exact Zh6 g3 hvl) (by omega)
    ·cases hv
   ·cases hv
  ·cases hv
theorem ZoS{ok:Nat→Prop}{s:Sh}{v:AV}{x:Value}(hr:Rel w ok h L v x):Rel w ok h L (ZwX s v) x:=by
 unfold ZwX
 split
 ·cases hr;exact .nil _ _ _ rfl
 ·cases hr;exact .nil _ _ _ rfl
 ·exact hr
theorem Zow:∀(ss:List Sh) (xs:zA) (j:Nat),(Zwa ss xs)[j]? =match xs[j]?,ss[j]? with |some x,some s=>some (ZwX s x) |some x,none=>some x |none,_=>none
 |s::ss,x::xs,0=>rfl
 |s::ss,x::xs,j+1=>by simp only[Zwa,List.getElem?_cons_succ];exact Zow ss xs j
 |[],xs,j=>by simp only[Zwa];cases xs[j]?<;>simp
 |s::ss,[],j=>by simp[Zwa]
theorem ZkO:∀(ss:List Sh) (xs:zA),(Zwa ss xs).length=xs.length
 |s::ss,x::xs=>by simp only[Zwa,List.length_cons,ZkO ss xs]
 |[],xs=>rfl
 |s::ss,[]=>rfl
theorem ZxN{ok:Nat→Prop}{s:Sh}{v:AV}{x:Value}(hr:Rel w ok h L v x):Rel w ok h L (zsh s v) x:=by
 unfold zsh
 split
 ·rename_i ss xs
  cases hr with
  |agg _ ys hy vs hl h1 hh=>
   subst hy
   refine .agg _ _ rfl vs (by simp only[Row.elems,ZkO];exact hl) h1 (fun j u v hu hv=>?_)
   simp only[Row.elems]at hu
   rw[Zow]at hu
   split at hu
   ·rename_i y s hy hs
    cases hu;exact ZoS (hh j y v hy hv)
   ·rename_i y hy hs
    cases hu;exact hh j _ v hy hv
   ·cases hu
 ·exact hr
 ·exact ZoS hr
theorem Zug(s:Sh)(v:AV):(zsh s v).flat.length=v.flat.length:=by
 unfold zsh
 split
 ·simp[AV.flat,Row.elems,ZkO]
 ·rfl
 ·rename_i s v _ _
  unfold ZwX
  split<;>rfl
theorem ZDy(s:Sh){v:AV}(hb:v.bx=true):(zsh s v).bx=true:=by
 unfold zsh
 split
 ·rfl
 ·exact hb
 ·rename_i s v _ _
  unfold ZwX
  split<;>first |rfl |exact hb
theorem ZrY{n:Nat}{z:AV}{r s:Row}(hs:ZKi std n z r=some s):∃z',s.elems=List.replicate n z'∧(z'=z∨∃sh,z'=zsh sh z):=by
 unfold ZKi at hs
 split at hs
 ·rename_i sh xs
  split at hs
  ·rename_i hc
   simp only[zS]at hs
   subst hs
   refine⟨zsh sh z,?_, .inr ⟨sh,rfl⟩⟩
   show(List.replicate n (zsh sh z)).map sh.view=_
   rw[List.map_replicate,ZfC hc]
  ·cases hs
 ·simp only[zS]at hs
  subst hs
  exact⟨z,ZbE n z, .inl rfl⟩
theorem Zsr(H:HRel C h L w){t e:TypeId}{i:TypeInfo}{zv:Value}{sz:Nat}{z x:AV}{x':Operand}(ho:o.op=.call { callee:=.builtin .clear,args:= #[x'],argTypes:= #[t] })(rx:ZaH C h L w x (ev x'))
 (ht:C.P.underlying t=some (.slice e)) (hi:C.P.info? e=some i) (hz:i.zero=some zv) (hsz:i.size=sz) (hzc:zv.cells.size=sz) (hpos:0<sz) (hzm:ZdG z zv=true) (hzb:z.bx=true) (hzs:z.flat.length=sz)
 (hv:ZHS std h sz z x=some (true,v,h')):Snd C h L w ev o h' v:=by
 unfold ZHS at hv
 split at hv
 case h_2=>cases hv
 rename_i c j k n cp
 split at hv
 case h_2=>cases hv
 rename_i e' sz' r hbk
 split at hv
 case h_2=>cases hv
 rename_i s hs
 simp only[zS,zP,std_and]at hv
 obtain⟨⟨hq,hkn⟩,rfl,rfl⟩:=hv
 have hq:sz'=sz:=by simpa[std]using hq
 subst hq
 have hkn:k+n≤r.elems.length:=by rw[Row.len_std]at hkn;simpa[std]using hkn
 obtain⟨z',hel,hz'⟩:=ZrY hs
 have hzr:ZaH C h L w z' zv:=by
  rcases hz' with rfl |⟨sh,rfl⟩
  ·exact Zcv hzm
  ·exact ZxN (Zcv hzm)
 have hzb':z'.bx=true:=by
  rcases hz' with rfl |⟨sh,rfl⟩
  ·exact hzb
  ·exact ZDy sh hzb
 have hzl:z'.flat.length=sz':=by
  rcases hz' with rfl |⟨sh,rfl⟩
  ·exact hzs
  ·rw[Zug];exact hzs
 obtain⟨hz1,hz2⟩:=hzr.cells hzb'
 obtain⟨htg,g0,g1,g2,g3⟩:=H.rowAt hbk
 have hrel:∀m:Nat,RelL w (Zaz C h L) h L (Zai (List.replicate m z')) (List.replicate m zv.cells.toList).flatten:=by
  intro m
  induction m with
  |zero=>exact RelL.nil
  |succ m ih=>simp only[List.replicate_succ,List.flatten_cons];rw[ZaL];exact hz1.append ih
 have hone:∀c∈(List.replicate n zv.cells.toList).flatten,c.oneCell'=true:=by
  intro c hc
  obtain⟨l,hl,hcl⟩:=List.mem_flatten.1 hc
  rw[List.eq_of_mem_replicate hl]at hcl
  exact hz2 c (by simpa using hcl)
 have hfs:∀x∈s.elems,x.flat.length=sz':=fun x hx=>by rw[hel]at hx;rw[List.eq_of_mem_replicate hx];exact hzl
 have hsl:s.elems.length=n:=by rw[hel,List.length_replicate]
 have hbl:(r.blit std k s).elems=spl r.elems k s.elems:=by rw[Row.blit_std];rfl
 have hfl:Zai (r.blit std k s).elems=spl (Zai r.elems) (k*sz') (Zai s.elems):=by
  rw[hbl];unfold spl;rw[ZaI,ZaI,Za8 _ _ g3,Zbh _ _ g3,Zax hfs,Nat.add_mul]
 have hff:∀x∈(r.blit std k s).elems,x.flat.length=sz':=fun x hx=>by
  rw[hbl]at hx
  rcases ZgH hx with hx |hx
  ·exact g3 x hx
  ·exact hfs x hx
 have hlen:(r.blit std k s).elems.length=r.elems.length:=by rw[hbl,Za1 (by omega)]
 generalize hxv:ev x'=xv at rx
 cases rx with
 |slc _ _ _ _ _ ad0 cc hn hl=>
  by_cases hn0:n=0
  ·subst hn0
   have hr0:(r.blit std k s).elems=r.elems:=by rw[hbl,List.eq_nil_of_length_eq_zero hsl];simp[spl]
   obtain⟨h6,h7⟩:=H.same hbk hr0
   refine⟨w,L, .tuple #[], .inl ?_,h6,h7,fun _=>.tup _ _ rfl (fun j u v hu _=>by simp at hu)⟩
   cases ad0<;>simp[execOp,ho,resolve,invoke,builtin,hxv,Builtin.clear_,Zay ht]
  ·rcases hl.2 _ htg with⟨_,h0,_⟩ |⟨_,h0⟩ |⟨rfl,_⟩
   ·exact absurd h0 hn0
   ·exact absurd (by omega) hn0
   ·have hrs:=hrel n
    have hzz:(List.replicate n zv.cells.toList).flatten.length=n*sz':=by
     have h9:=hrs.1
     have h8:=Zax (xs:=List.replicate n z') (sz:=sz') (fun x hx=>by rw[List.eq_of_mem_replicate hx];exact hzl)
     rw[List.length_replicate]at h8
     omega
    rw[←hel]at hrs
    obtain⟨cur,h4,hfit,hst,H'⟩:=H.write hbk (by omega) (r':=r.blit std k s) hfl hlen hff (by rw[Zax hfs,hsl,←Nat.add_mul];exact Nat.mul_le_mul_right _ hkn) hrs hone
    refine⟨_,L, .tuple #[], .inl ?_,hst,H',fun _=>.tup _ _ rfl (fun j u v hu _=>by simp at hu)⟩
    have hst:=run_storeCells_at C.P (L.loc c j) (k*sz') e' (List.replicate n zv.cells.toList).flatten 0 cur w h4 (by simpa using hfit) hone
    simp only[Nat.add_zero]at hst
    have hzl2:=Ziw zv hzc hpos n
    obtain⟨m,rfl⟩:∃m,n=m+1:=⟨n-1,by omega⟩
    simp[execOp,ho,resolve,invoke,builtin,hxv,Builtin.clear_,Zay ht,zeroValue,typeInfo,hi,hz,hzl2,hst,spl]
end
end Go.Proofs.YtkeoeooghhjibaaGreatDoor
