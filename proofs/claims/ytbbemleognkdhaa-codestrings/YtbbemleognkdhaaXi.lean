/- Soundness of the operations that turn memory. No condition. -/
import Derived.Test.YtbbemleognkdhaaXf
namespace Go.Proofs.Ytbbemleognkdhaa
open Go.RowKit (Below)
def spl{α:Type}(l:List α)(o:Nat)(ys:List α):List α:=l.take o++ys++l.drop (o+ys.length)
theorem Zax{α:Type}{l:List α}{o:Nat}{ys:List α}(h:o+ys.length≤l.length):(spl l o ys).length=l.length:=by simp[spl];omega
theorem Zbu{α:Type}{l:List α}{o:Nat}{ys:List α}(h:o+ys.length≤l.length)(j:Nat):(spl l o ys)[j]? =if o≤j∧j<o+ys.length then ys[j-o]? else l[j]?:=by
 unfold spl
 by_cases h1:j<o
 ·rw[if_neg (by omega),List.append_assoc,List.getElem?_append_left (by simp;omega),List.getElem?_take,if_pos h1]
 ·rw[List.append_assoc,List.getElem?_append_right (by simp;omega)]
  have hl:(l.take o).length=o:=by simp;omega
  rw[hl]
  by_cases h2:j<o+ys.length
  ·rw[if_pos ⟨by omega,h2⟩,List.getElem?_append_left (by omega)]
  ·rw[if_neg (by omega),List.getElem?_append_right (by omega),List.getElem?_drop]
   congr 1;omega
theorem Zdw{α:Type}{l:List α}{o:Nat}{ys:List α}{x:α}(h:x∈spl l o ys):x∈l∨x∈ys:=by
 simp only[spl,List.mem_append]at h
 rcases h with(h |h) |h
 ·exact .inl (List.mem_of_mem_take h)
 ·exact .inr h
 ·exact .inl (List.mem_of_mem_drop h)
theorem RelL.spl{w:World}{ok:Nat→Prop}{h:Zab}{L:Lay}{us xs:List AV}{vs ys:List Value}(hr:RelL w ok h L us vs)(hx:RelL w ok h L xs ys)(o:Nat)(ho:o+xs.length≤us.length):
 RelL w ok h L (Ytbbemleognkdhaa.spl us o xs) (Ytbbemleognkdhaa.spl vs o ys):=by
 have h1:=hr.1
 have h2:=hx.1
 refine⟨by rw[Zax ho,Zax (by omega)];exact h1,fun j u v hu hv=>?_⟩
 rw[Zbu ho]at hu
 rw[Zbu (by omega)]at hv
 by_cases hc:o≤j∧j<o+xs.length
 ·rw[if_pos hc]at hu
  rw[if_pos (by omega)]at hv
  exact hx.2 _ u v hu hv
 ·rw[if_neg hc]at hu
  rw[if_neg (by omega)]at hv
  exact hr.2 _ u v hu hv
theorem Zcv{α:Type}(l:List α)(k:Nat)(x:α)(h:k<l.length):l.set k x=spl l k [x]:=by
 apply List.ext_getElem?
 intro j
 rw[Zbu (by simp;omega)]
 by_cases hj:k=j
 ·subst hj;rw[List.getElem?_set_self h,if_pos (by simp)];simp
 ·rw[List.getElem?_set_ne hj,if_neg (by simp;omega)]
theorem ZeU{sz:Nat} :∀ {xs:List AV} {k:Nat} {v:AV},(∀x∈xs,x.flat.length=sz)→k<xs.length→v.flat.length=sz→Zad (xs.set k v)=spl (Zad xs) (k*sz) v.flat:=by
 intro xs k v hf hk hv
 have e:xs.set k v=xs.take k++[v]++xs.drop (k+1):=by rw[Zcv _ _ _ hk];rfl
 rw[e,Zan,Zan,ZaA _ _ hf,ZaI _ _ hf]
 unfold spl
 rw[hv,Nat.add_mul,Nat.one_mul]
 simp[Zad]
theorem ZeD{sz:Nat}{xs:List AV}{k:Nat}{v:AV}(hf:∀x∈xs,x.flat.length=sz)(hv:v.flat.length=sz):∀x∈xs.set k v,x.flat.length=sz:=by
 intro x hx
 rcases List.mem_or_eq_of_mem_set hx with hx |rfl
 ·exact hf x hx
 ·exact hv
theorem ZlQ{α:Type}{l:List α}{k sz off:Nat}{u xs:List α}(hk:k+sz≤l.length)(hu:∀j,j<sz→l[k+j]? =u[j]?)(hul:u.length=sz)(ho:off+xs.length≤sz):spl l k (spl u off xs)=spl l (k+off) xs:=by
 have hl:(spl u off xs).length=sz:=by rw[Zax (by omega)];exact hul
 apply List.ext_getElem?
 intro j
 rw[Zbu (l:=l) (o:=k) (ys:=spl u off xs) (by omega),Zbu (l:=l) (o:=k+off) (ys:=xs) (by omega),hl]
 by_cases h1:k≤j∧j<k+sz
 ·rw[if_pos h1,Zbu (by omega)]
  by_cases h2:off≤j-k∧j-k<off+xs.length
  ·rw[if_pos h2,if_pos (by omega)];congr 1;omega
  ·rw[if_neg h2,if_neg (by omega),←hu _ (by omega)];congr 1;omega
 ·rw[if_neg h1,if_neg (by omega)]
theorem ZpW{sz n off:Nat}{u x v:AV}(hu:u.flat.length=sz)(hv:Zuk std sz n off u x=some (true,v)):x.bx=true∧x.flat.length=n∧off+n≤sz∧v.flat=spl u.flat off x.flat:=by
 unfold Zuk at hv
 split at hv
 ·rename_i us xs
  split at hv
  ·rename_i e1 e2
   have e1:off=0:=by simpa using e1
   have e2:n=sz:=by simpa using e2
   subst e1;subst e2
   simp only[Option.some.injEq,Prod.mk.injEq]at hv
   obtain⟨hl,rfl⟩:=hv
   have hl:xs.elems.length=n:=by rw[Row.len_std]at hl;simpa[std]using hl
   refine⟨rfl,hl,by omega,?_⟩
   have:(AV.agg us).flat=us.elems:=rfl
   simp only[spl,AV.flat,List.take_zero,List.nil_append]
   rw[List.drop_of_length_le (by rw[this]at hu;omega),List.append_nil]
  ·simp only[Option.some.injEq,Prod.mk.injEq,std_and]at hv
   obtain⟨⟨hl,hle⟩,rfl⟩:=hv
   have hl:xs.elems.length=n:=by rw[Row.len_std]at hl;simpa[std]using hl
   have hle:off+n≤sz:=by simpa[std]using hle
   exact⟨rfl,hl,hle,Row.blit_std _ _ _⟩
 ·rename_i us hx
  simp only[Option.some.injEq,Prod.mk.injEq,std_and]at hv
  obtain⟨⟨⟨hb,hn⟩,hlt⟩,rfl⟩:=hv
  have hn:n=1:=by simpa[std]using hn
  have hlt:off<sz:=by simpa[std]using hlt
  subst hn
  have hf:x.flat=[x]:=Za2 (by cases x<;>first |rfl |exact(hx _ rfl).elim)
  refine⟨hb,by rw[hf];rfl,hlt,?_⟩
  rw[hf]
  show(us.set std off x).elems=_
  rw[Row.set_std]
  exact Zcv _ _ _ (by rw[show us.elems.length=sz from hu];exact hlt)
 ·rename_i hx1 hx2
  simp only[Option.some.injEq,Prod.mk.injEq,std_and]at hv
  obtain⟨⟨⟨hb,h0⟩,hn,hl⟩,rfl⟩:=hv
  have h0:off=0:=by simpa[std]using h0
  have hn:n=sz:=by simpa[std]using hn
  subst h0;subst hn
  have hl:x.flat.length=n:=by
   rw[ZaF]at hl;simpa[std]using hl
  refine⟨hb,hl,by omega,?_⟩
  simp only[spl,List.take_zero,List.nil_append]
  rw[List.drop_of_length_le (by omega),List.append_nil]
section
variable {C:Ctx}{o:Oper}{ρ:Opd→AV}{ev:Operand→Value}{h h':Zab}{w w':World}{L:Lay}{v:AV}{P:Program}
theorem Zhb(w:World)(g:Nat)(cs:Array Value):w.grownBy (w.setRow g cs) (some g):=⟨rfl,rfl,rfl,by simp,fun k _ hne=>setRow_other w g k cs (fun e=>hne (by rw[e]))⟩
theorem HRel.write(H:HRel C h L w){a i e sz:Nat}{r r':Row}(hb:blk h a i=.row e sz r)(hn:L.size a i≠0){q:Nat}{xs:List AV}{ys:List Value}(hr':Zad r'.elems=spl (Zad r.elems) q xs)(hlen:r'.elems.length=r.elems.length)(hf:∀x∈r'.elems,x.flat.length=sz)
 (hq:q+xs.length≤r.elems.length*sz) (hx:RelL w (Zaj C h L) h L xs ys) (h1:∀c∈ys,c.oneCell'=true):
 ∃cur:Array Value,w.heap[L.loc a i]? =some (.cells cur e (0,0))∧q+ys.length≤cur.size∧
  Step w (Zaj C h L) h L (w.setRow (L.loc a i) (spl cur.toList q ys).toArray) (Zaj C (Zav h a i (.row e sz r')) L) (Zav h a i (.row e sz r')) L∧HRel C (Zav h a i (.row e sz r')) L (w.setRow (L.loc a i) (spl cur.toList q ys).toArray):=by
 obtain⟨ht,h0,g1,g2,g3⟩:=H.rowAt hb
 obtain⟨hpl,cur,h4,h5,h6,h7,h8⟩:=H.curAt hb hn
 have hfl:=Zah g3
 have hxl:=hx.1
 have hge:r.elems.length*sz≤cur.size:=by rw[h5];exact Nat.mul_le_mul_right _ g2
 have hqc:q+ys.length≤cur.size:=by omega
 refine⟨cur,h4,hqc,H.set hpl (by rw[ht];simp[Blk.tag,hlen]) (Zhb _ _ _) (fun s=>?_)⟩
 have htake:((spl cur.toList q ys).toArray.toList).take (r'.elems.length*sz)=spl (cur.toList.take (r.elems.length*sz)) q ys:=by
  rw[hlen,List.toList_toArray]
  apply List.ext_getElem?
  intro j
  rw[Zbu (by simp;omega),List.getElem?_take,Zbu (by simpa using hqc),List.getElem?_take]
  by_cases hj:j<r.elems.length*sz
  ·rw[if_pos hj,if_pos hj]
  ·rw[if_neg hj,if_neg hj,if_neg (by omega)]
 refine⟨h0,g1,by rw[hlen];exact g2,hf,fun _=>⟨_,setRow_heap w _ cur _ e (0,0) h4,by simp only[List.size_toArray];rw[Zax (by simpa using hqc)];simpa using h5,?_,?_⟩⟩
 ·rw[htake,hr']
  exact(h6.spl hx q (by omega)).step s
 ·rw[htake]
  intro c hc
  rcases Zdw hc with hc |hc
  ·exact h7 c hc
  ·exact h1 c hc
theorem Zc2(H:HRel C h L w){t:TypeId}{i:TypeInfo}{n:Nat}{p x:AV}{p' x':Operand}(ho:o.op=.store t p' x')(hd:o.dst=none)(rp:Zao C h L w p (ev p'))(rx:Zao C h L w x (ev x'))
 (hi:C.P.info? t=some i) (hn:i.size=n) (hv:Zd1 std h n p x=some (true,v,h')):Snd C h L w ev o h' v:=by
 unfold Zd1 at hv
 split at hv
 ·rename_i a j k off
  split at hv
  ·rename_i e sz r hb
   split at hv
   ·rename_i b u hput
    simp only[Option.some.injEq,Prod.mk.injEq,std_and]at hv
    obtain⟨⟨hk,rfl⟩,rfl,rfl⟩:=hv
    have hk:k<r.elems.length:=by rw[Row.len_std]at hk;simpa[std]using hk
    obtain⟨ht,h0,g1,g2,g3⟩:=H.rowAt hb
    have hget:=Row.get_std hk
    have hul:=g3 _ (List.mem_of_getElem? hget)
    obtain⟨hbx,hxl,hon,hvf⟩:=ZpW hul hput
    obtain⟨c1,c2⟩:=rx.cells hbx
    have hge:k*sz+sz≤r.elems.length*sz:=by
     have:=Nat.mul_le_mul_right sz (Nat.succ_le_of_lt hk)
     rwa[Nat.succ_mul]at this
    have hfa:=Zah g3
    have hvl:u.flat.length=sz:=by rw[hvf,Zax (by omega)];exact hul
    have hfl':Zad (r.set std k u).elems=spl (Zad r.elems) (k*sz+off) x.flat:=by
     rw[Row.set_std,ZeU g3 hk hvl,hvf]
     exact ZlQ (by omega) (fun j hj=>ZcB g3 hget j hj) hul (by omega)
    obtain⟨cur,h4',hfit,hs,H'⟩:=H.write hb (by omega) (r':=r.set std k u) hfl' (by rw[Row.set_std,List.length_set]) (by rw[Row.set_std];exact ZeD g3 hvl) (by omega) c1 (by simpa using c2)
    generalize hpv:ev p'=pv at rp
    cases rp with
    |ptr _ _ _ _ g oo hl=>
     obtain⟨rfl,rfl⟩:=hl.2 _ ht
     refine⟨_,L,undef, .inr ⟨?_,hd⟩,hs,H',fun e=>absurd hd e⟩
     have hst:=run_storeCells_at C.P (L.loc a j) (k*sz+off) e (ev x').cells.toList 0 cur w h4' (by simpa using hfit) (by simpa using c2)
     have hsz:(ev x').cells.size=i.size:=by rw[hn,←Array.length_toList,←c1.1];exact hxl
     simp only[Nat.add_zero]at hst
     simp only[execOp,ho,Instr.storeAt,hpv,Instr.sureAddr,Sem.run_bind,Sem.run_pure,Result.andThen_ok,storeVar,ZaU hi,hsz,ne_eq,not_true_eq_false,if_false,hst]
     rfl
   ·cases hv
  ·cases hv
 ·cases hv
theorem HRel.newRow(H:HRel C h L w)(a:Nat){e sz:Nat}{r:Row}{cur:Array Value}(hsz:0<sz)(hf:∀x∈r.elems,x.flat.length=sz)(hr:RelL w (Zaj C h L) h L (Zad r.elems) cur.toList)(h1:∀c∈cur,c.oneCell'=true)(hm:r.elems.length≤maxLen):
 Step w (Zaj C h L) h L (w.alloc (.cells cur e)) (Zaj C (Zae h a (.row e sz r)) (L.put a (nxt h a) w.heap.size r.elems.length)) (Zae h a (.row e sz r)) (L.put a (nxt h a) w.heap.size r.elems.length)∧
 HRel C (Zae h a (.row e sz r)) (L.put a (nxt h a) w.heap.size r.elems.length) (w.alloc (.cells cur e)):=by
 have hl:r.elems.length*sz=cur.size:=by have:=hr.1;rw[Zah hf]at this;simpa using this
 refine H.push a _ _ _ ((Below.refl _ _).alloc (Nat.le_refl _) _) ⟨Nat.le_refl _,by simp⟩ (fun s=>⟨hsz,hm,Nat.le_refl _,hf,fun _=>⟨cur,heap_alloc_new w _,by rw[←hl],?_,?_⟩⟩)
 ·rw[hl,List.take_of_length_le (by simp)];exact hr.step s
 ·intro c hc;exact h1 c (by simpa using List.mem_of_mem_take hc)
theorem Zeh(h:Zab)(a:Nat)(b:Blk):blk (Zae h a b) a (nxt h a)=b:=by rw[ZaB,if_pos ⟨rfl,rfl⟩]
theorem ZbU{h:Zab}{L:Lay}{a:Nat}{b:Blk}{g n:Nat}{p:Nat→Nat×Nat→Prop}(hp:∀sz,b.tag=some sz→p g sz):Live (Zae h a b) (L.put a (nxt h a) g n) a (nxt h a) p:=by
 refine⟨by rw[ZbF,if_pos rfl];omega,fun sz hsz=>?_⟩
 rw[Zeh]at hsz
 rw[Lay.put_loc];exact hp sz hsz
theorem ZoV(H:HRel C h L w)(a:Nat)(e:TypeId){x:AV}{xv:Value}(hx:Zao C h L w x xv)(hb:x.bx=true)(hpos:0<x.flat.length):
 ∃L',Step w (Zaj C h L) h L (w.alloc (.cells xv.cells e)) (Zaj C (Zae h a (.row e (Zas std x) (.gen [x]))) L') (Zae h a (.row e (Zas std x) (.gen [x]))) L'∧HRel C (Zae h a (.row e (Zas std x) (.gen [x]))) L' (w.alloc (.cells xv.cells e))∧
  Zao C (Zae h a (.row e (Zas std x) (.gen [x]))) L' (w.alloc (.cells xv.cells e)) (.ptr a (nxt h a) 0 0) (.pointer (some ⟨w.heap.size,0,none⟩)):=by
 obtain⟨c1,c2⟩:=hx.cells hb
 have hn:=H.newRow a (e:=e) (sz:=Zas std x) (r:=.gen [x]) (cur:=xv.cells) (by rw[ZaF];exact hpos) (by simp[Row.elems,ZaF]) (by simpa[Row.elems,Zad]using c1) c2 (by simp[Row.elems,maxLen])
 refine⟨_,hn.1,hn.2, .ptr _ _ _ _ _ _ (ZbU (fun sz hsz=>⟨rfl,by simp⟩))⟩
theorem Zmn(H:HRel C h L w){a:Nat}{e:TypeId}{x:AV}{x':Operand}(ho:o.op=.box e x')(rx:Zao C h L w x (ev x'))(hb:x.bx=true)(hpos:0<x.flat.length):Snd C h L w ev o (Zae h a (.row e (Zas std x) (.gen [x]))) (.ptr a (nxt h a) 0 0):=by
 obtain⟨L',s,H',r⟩:=ZoV H a e rx hb hpos
 exact⟨_,L', .pointer (some ⟨w.heap.size,0,none⟩), .inl (by simp[execOp,ho,Instr.box,newVar,newRow]),s,H',fun _=>r⟩
theorem ZiL(H:HRel C h L w){a:Nat}{e:TypeId}{i:TypeInfo}{z:AV}{zv:Value}(ho:o.op=.alloc e)(hi:C.P.info? e=some i)(hz:i.zero=some zv)(hm:Zcb z zv=true)(hb:z.bx=true)(hpos:0<z.flat.length):
 Snd C h L w ev o (Zae h a (.row e (Zas std z) (.gen [z]))) (.ptr a (nxt h a) 0 0):=by
 obtain⟨L',s,H',r⟩:=ZoV H a e (Zbr hm) hb hpos
 exact⟨_,L', .pointer (some ⟨w.heap.size,0,none⟩), .inl (by simp[execOp,ho,Instr.alloc,zeroValue,typeInfo,hi,hz,newVar,newRow]),s,H',fun _=>r⟩
def Zgv:List Value→List (Nat×List Value)→List Value
 |cells,[]=>cells
 |cells,(o,vs)::rest=>Zgv (spl cells o vs) rest
theorem Zhj:∀(vs:List Value) (k off:Nat) (cells:Array Value),off+k+vs.length≤cells.size→
 ((vs.zipIdx k).foldl (fun cs (p:Value×Nat)=>cs.setIfInBounds (off+p.2) p.1) cells).toList=spl cells.toList (off+k) vs
 |[],k,off,cells,_=>by simp[spl]
 |v::vs,k,off,cells,h=>by
  simp only[List.zipIdx_cons,List.foldl_cons]
  simp only[List.length_cons]at h
  rw[Zhj vs (k+1) off _ (by simp;omega)]
  simp only[Array.toList_setIfInBounds]
  rw[Zcv _ _ _ (by simp;omega)]
  apply List.ext_getElem?
  intro j
  have hl1:off+k+[v].length≤cells.toList.length:=by simp;omega
  have hl2:=Zax hl1
  rw[Zbu (by rw[hl2];simp;omega),Zbu hl1,Zbu (by simp;omega)]
  simp only[List.length_cons,List.length_nil]
  by_cases c1:off+(k+1)≤j∧j<off+(k+1)+vs.length
  ·rw[if_pos c1,if_pos (by omega)]
   rw[show j-(off+k)=(j-(off+(k+1)))+1 from by omega,List.getElem?_cons_succ]
  ·rw[if_neg c1]
   by_cases c2:j=off+k
   ·subst c2;rw[if_pos (by omega),if_pos (by omega)];simp
   ·rw[if_neg (by omega),if_neg (by omega)]
theorem ZhK(place:Nat→Option (Nat×Nat))(off:Nat→Nat):∀(parts:List (Nat×Value)) (cells:Array Value),
 (∀p∈parts,place p.1=some (off p.1,p.2.cells.size)∧off p.1+p.2.cells.size≤cells.size)→
 ∃out,Instr.fill place cells parts=some out∧out.toList=Zgv cells.toList (parts.map fun p=>(off p.1,p.2.cells.toList))
 |[],cells,_=>⟨cells,rfl,rfl⟩
 |(i,v)::rest,cells,h=>by
  obtain⟨h1,h2⟩:=h (i,v) (by simp)
  dsimp only at h1 h2
  have hf:=Zhj v.cells.toList 0 (off i) cells (by simp only[Array.length_toList];omega)
  have hsz:(v.cells.zipIdx.foldl (fun cs (p:Value×Nat)=>cs.setIfInBounds (off i+p.2) p.1) cells).size=cells.size:=by
   rw[←Array.length_toList,←Array.foldl_toList,Array.toList_zipIdx,hf,Zax (by simp;omega),Array.length_toList]
  obtain⟨out,e1,e2⟩:=ZhK place off rest (v.cells.zipIdx.foldl (fun cs (p:Value×Nat)=>cs.setIfInBounds (off i+p.2) p.1) cells) (fun p hp=>by
   rw[hsz];exact h p (by simp[hp]))
  refine⟨out,?_,?_⟩
  ·simp only[Instr.fill,h1]
   rw[if_neg (by simp;omega)]
   exact e1
  ·rw[e2]
   simp only[List.map_cons,Zgv]
   congr 1
   rw[←Array.foldl_toList,Array.toList_zipIdx,hf]
   simp
theorem Zhu{t:TypeId}{z:Value}{place:Nat→Option (Nat×Nat)}(hp:Zep P t=some (z,place))(parts:List (Nat×Value)):P.built t parts=Instr.fill place z.cells parts:=by
 unfold Zep at hp
 unfold Program.built
 split at hp
 ·rename_i e1 e2
  rw[e1,e2]
  split at hp
  ·rename_i f1 f2
   cases hp
   simp[f1,f2]
  ·cases hp
 ·rename_i e1 e2
  rw[e1,e2]
  split at hp
  ·rename_i f1 f2
   cases hp
   simp[f1,f2]
  ·cases hp
 ·cases hp
theorem ZjE(hρ:Rho C h L w ρ ev)(place:Nat→Option (Nat×Nat))(off:Nat→Nat):∀(ps:List (Nat×Nat×Opd)) (qs:List (Nat×Operand)) (r r':Row) (vs:List Value),ZeZ place ps qs=true→Ze1 std ρ r ps=(true,r')→(∀i o n,place i=some (o,n)→off i=o)→
 RelL w (Zaj C h L) h L r.elems vs→(∀c∈vs,c.oneCell'=true)→
 (∀q∈qs,place q.1=some (off q.1,(ev q.2).cells.size)∧off q.1+(ev q.2).cells.size≤vs.length)∧
 RelL w (Zaj C h L) h L r'.elems (Zgv vs (qs.map fun q=>(off q.1,(ev q.2).cells.toList)))∧∀c∈Zgv vs (qs.map fun q=>(off q.1,(ev q.2).cells.toList)),c.oneCell'=true
 |[],[],r,r',vs,_,hf,_,hr,h1=>by
  simp only[Ze1,Prod.mk.injEq,true_and]at hf;subst hf
  exact⟨(fun q hq=>by cases hq),hr,h1⟩
 |(o,n,x)::ps,(i,y)::qs,r,r',vs,hm,hf,hoff,hr,h1=>by
  simp only[ZeZ,Bool.and_eq_true,beq_iff_eq]at hm
  obtain⟨⟨hpl,hxy⟩,hm⟩:=hm
  have ho:=hoff i o n hpl
  subst ho
  have rx:=hρ.rel x y hxy
  simp only[Ze1]at hf
  generalize hg:Ze1 std ρ (match ρ x with | .agg xs=>r.blit std (off i) xs |v=>r.set std (off i) v) ps=res at hf
  obtain⟨b,r2⟩:=res
  simp only[Prod.mk.injEq,std_and]at hf
  obtain⟨⟨⟨hbx,hfl⟩,hle,hpos,rfl⟩,rfl⟩:=hf
  rw[ZaF]at hfl
  have hfl:(ρ x).flat.length=n:=by simpa[std]using hfl
  have hle:off i+n≤r.elems.length:=by rw[Row.len_std]at hle;simpa[std]using hle
  have hpos:0<n:=by simpa[std]using hpos
  obtain⟨c1,c2⟩:=rx.cells hbx
  have hel:(match ρ x with | .agg xs=>r.blit std (off i) xs |v=>r.set std (off i) v).elems=spl r.elems (off i) (ρ x).flat:=by
   split
   ·rename_i xs hx;rw[hx]at *;exact Row.blit_std _ _ _
   ·rename_i hx
    have hs:(ρ x).flat=[ρ x]:=Za2 (by generalize ρ x=u at hx;cases u<;>first |rfl |exact(hx _ rfl).elim)
    rw[hs,Row.set_std]
    exact Zcv _ _ _ (by omega)
  have hvl:(ev y).cells.size=n:=by have:=c1.1;rw[hfl]at this;simpa using this.symm
  have ih:=ZjE hρ place off ps qs _ r2 (spl vs (off i) (ev y).cells.toList) hm hg hoff (by rw[hel];exact hr.spl c1 _ (by omega)) (fun c hc=>by
   rcases Zdw hc with hc |hc
   ·exact h1 c hc
   ·exact c2 c (by simpa using hc))
  have hsl:(spl vs (off i) (ev y).cells.toList).length=vs.length:=Zax (by have:=hr.1;simp;omega)
  refine⟨fun q hq=>?_,ih.2⟩
  rcases List.mem_cons.1 hq with rfl |hq
  ·exact⟨by rw[hvl];exact hpl,by have:=hr.1;simp only;omega⟩
  ·have:=ih.1 q hq;rw[hsl]at this;exact this
 |[],_::_,_,_,_,hm,_,_,_,_=>by simp[ZeZ]at hm
 |_::_,[],_,_,_,hm,_,_,_,_=>by simp[ZeZ]at hm
theorem Zik(H:HRel C h L w)(hρ:Rho C h L w ρ ev){t:TypeId}{z r':Row}{zv:Value}{place:Nat→Option (Nat×Nat)}{parts:List (Nat×Nat×Opd)}{parts':Array (Nat×Operand)}(ho:o.op=.build t parts')
 (hpl:Zep C.P t=some (zv,place)) (hz:Zcb (.agg z) zv=true) (hm:ZeZ place parts parts'.toList=true) (hv:Ze1 std ρ z parts=(true,r')):Snd C h L w ev o h (.agg r'):=by
 have hzr:Zao C h L w (.agg z) zv:=Zbr hz
 obtain⟨zc,hzv,hzr,hz1⟩:=Zff hzr
 let off:Nat→Nat:=fun i=>((place i).map (·.1)).getD 0
 obtain⟨f1,f2,f3⟩:=ZjE hρ place off parts parts'.toList z r' zc.toList hm hv (fun i o n e=>by simp[off,e]) hzr (by simpa using hz1)
 obtain⟨out,e1,e2⟩:=ZhK place off (parts'.toList.map fun(i,x)=>(i,ev x)) zc (by
  intro p hp
  obtain⟨q,hq,rfl⟩:=List.mem_map.1 hp
  have:=f1 q hq
  simpa using this)
 have hrun:C.P.built t (parts'.map fun(i,x)=>(i,ev x)).toList=some out:=by
  rw[Zhu hpl,hzv]
  simpa[Value.cells]using e1
 rw[List.map_map]at e2
 have e2:out.toList=Zgv zc.toList (parts'.toList.map fun q=>(off q.1,(ev q.2).cells.toList)):=e2
 refine .pure H (r:=.agg out) (by simp[execOp,ho,run_build w t _ out hrun]) ?_
 exact .agg r' _ rfl _ (by rw[←Array.length_toList,e2];exact f2.1) (fun c hc=>f3 c (by rw[←e2];simpa using hc)) (fun j u v hu hv=>f2.2 j u v hu (by rw[←e2];simpa using hv))
end
end Go.Proofs.Ytbbemleognkdhaa
/- Soundness of slices that are made, grown and copied; of all operations. No condition. -/
namespace Go.Proofs.Ytbbemleognkdhaa
open Go.RowKit (Below)
section
variable {C:Ctx}{o:Oper}{ρ:Opd→AV}{ev:Operand→Value}{h h':Zab}{w w':World}{L:Lay}{v:AV}{P:Program}
theorem ZgN{sz:Nat} :∀(vs:List (List Value)) (k:Nat) (cells:List Value),(∀v∈vs,v.length=sz)→cells.length=(k+vs.length)*sz→
 Zgv cells ((vs.zipIdx k).map fun p=>(p.2*sz,p.1))=cells.take (k*sz)++vs.flatten
 |[],k,cells,_,hl=>by
  simp only[List.length_nil,Nat.add_zero]at hl
  simp[Zgv,←hl]
 |v::vs,k,cells,hv,hl=>by
  have h1:=hv v (by simp)
  simp only[List.length_cons]at hl
  have hle:k*sz+sz≤cells.length:=by rw[hl];have:=Nat.mul_le_mul_right sz (show k+1≤k+(vs.length+1) by omega);rwa[Nat.add_mul,Nat.one_mul]at this
  simp only[List.zipIdx_cons,List.map_cons,Zgv,spl]
  rw[ZgN vs (k+1) _ (fun u hu=>hv u (by simp[hu])) (by rw[List.length_append,List.length_append,List.length_take,List.length_drop,h1,show k+1+vs.length=k+(vs.length+1) by omega,←hl];omega)]
  have e0:(cells.take (k*sz)).length=k*sz:=by rw[List.length_take];omega
  have e1:(cells.take (k*sz)++v++cells.drop (k*sz+v.length)).take ((k+1)*sz)=cells.take (k*sz)++v:=by
   have e2:(k+1)*sz=(cells.take (k*sz)++v).length:=by rw[List.length_append,e0,h1,Nat.add_mul,Nat.one_mul]
   rw[e2,List.take_left]
  rw[e1]
  simp
theorem Zfp:∀ {k:Nat} {xs:List Opd} {ys:List (Nat×Operand)},Zij k xs ys=true→ys=((ys.map (·.2)).zipIdx k).map (fun p=>(p.2,p.1))∧xs.length=ys.length∧∀(j:Nat) (x:Opd) (y:Operand),xs[j]? =some x→(ys.map (·.2))[j]? =some y→ZaC x y=true
 |_,[],[],_=>⟨rfl,rfl,fun j x y hx=>by simp at hx⟩
 |k,x::xs,(i,y)::ys,h=>by
  simp only[Zij,Bool.and_eq_true,beq_iff_eq]at h
  obtain⟨h1,h2,h3⟩:=Zfp h.2
  refine⟨?_,by simp[h2],fun j x' y' hx hy=>?_⟩
  ·simp only[List.map_cons,List.zipIdx_cons]
   rw[h.1.1,←h1]
  ·cases j with
   |zero=>simp at hx hy;subst hx;subst hy;exact h.1.2
   |succ j=>exact h3 j x' y' (by simpa using hx) (by simpa using hy)
 |_,[],(_,_)::_,h=>by simp[Zij]at h
 |_,_::_,[],h=>by simp[Zij]at h
theorem Zoi{a e sz:Nat}{r:Row}{c n g:Nat}(hn:n=r.elems.length)(hc:n≤c):Zao C (Zae h a (.row e sz r)) (L.put a (nxt h a) g c) w' (.row a (nxt h a)) (.slice (some ⟨g,0,none⟩) n c):=
 .row _ _ _ _ _ hc (ZbU (fun s hs=>by cases hs;exact⟨fun _=>rfl,hn,by rw[Lay.put_size]⟩))
theorem ZgU(H:HRel C h L w)(hρ:Rho C h L w ρ ev){a:Nat}{t e:TypeId}{sz ln:Nat}{zv:Value}{i:TypeInfo}{parts:List Opd}{parts':Array (Nat×Operand)}(ho:o.op=.buildSlice t ln parts')(hm:Zij 0 parts parts'.toList=true)(hln:ln=parts.length)
 (ht:C.P.underlying t=some (.slice e)) (hi:C.P.info? e=some i) (hz:i.zero=some zv) (hsz:i.size=sz) (hpos:0<sz) (hsmall:parts.length*sz≤65536) (hfit:Row.fits std sz (.gen (parts.map ρ))=true):
 Snd C h L w ev o (Zae h a (.row e sz (Zit (parts.map ρ)))) (.row a (nxt h a)):=by
 have hel:∀u∈parts.map ρ,u.bx=true∧u.flat.length=sz:=Row.fits_std hfit
 obtain⟨m1,m2,m3⟩:=Zfp hm
 have hrels:∀(j:Nat) (x:Opd) (y:Operand),parts[j]? =some x→(parts'.toList.map (·.2))[j]? =some y→RelL w (Zaj C h L) h L (ρ x).flat (ev y).cells.toList∧(∀c∈(ev y).cells,c.oneCell'=true)∧(ev y).cells.size=sz:=by
  intro j x y hx hy
  obtain⟨e2,e3⟩:=hel (ρ x) (List.mem_map.2 ⟨x,List.mem_of_getElem? hx,rfl⟩)
  obtain⟨c1,c2⟩:=Rel.cells (hρ.rel x y (m3 j x y hx hy)) e2
  exact⟨c1,c2,by have:=c1.1;simp only[Array.length_toList]at this;omega⟩
 generalize hys:parts'.toList.map (·.2)=ys at*
 have hyl:ys.length=parts.length:=by rw[←hys];simp[m2]
 have hget:∀y∈ys,∃j x,parts[j]? =some x∧ys[j]? =some y:=fun y hy=>by
  obtain⟨j,hj⟩:=List.mem_iff_getElem?.1 hy
  have hlt:j<parts.length:=by rw[←hyl];exact(List.getElem?_eq_some_iff.1 hj).1
  exact⟨j,_,List.getElem?_eq_getElem hlt,hj⟩
 have hsize:∀y∈ys,(ev y).cells.size=sz:=fun y hy=>by
  obtain⟨j,x,hx,hyj⟩:=hget y hy
  exact(hrels j x y hx hyj).2.2
 let zero:Array Value:=if ln*sz=0 then #[]else zv.cells
 obtain⟨out,e1,e2⟩:=ZhK (fun i=>some (i*sz,sz)) (fun i=>i*sz) (parts'.toList.map fun(i,x)=>(i,ev x)) ((Array.range (ln*sz)).map (zero[· %zero.size]!)) (by
  intro p hp
  obtain⟨q,hq,rfl⟩:=List.mem_map.1 hp
  rw[m1]at hq
  obtain⟨r,hr,rfl⟩:=List.mem_map.1 hq
  have hy:r.1∈ys:=(List.mem_zipIdx hr).2.2▸List.getElem_mem _
  have hlt:r.2<ys.length:=by have:=(List.mem_zipIdx hr).2.1;omega
  dsimp only
  rw[hsize r.1 hy]
  refine⟨rfl,?_⟩
  simp only[Array.size_map,Array.size_range,hln]
  have:=Nat.mul_le_mul_right sz (show r.2+1≤parts.length by omega)
  rwa[Nat.add_mul,Nat.one_mul]at this)
 have hout:out.toList=(ys.map fun y=>(ev y).cells.toList).flatten:=by
  rw[e2]
  have e3:((parts'.toList.map fun(i,x)=>(i,ev x)).map fun p=>(p.1*sz,p.2.cells.toList))=((ys.map fun y=>(ev y).cells.toList).zipIdx 0).map fun p=>(p.2*sz,p.1):=by
   rw[m1]
   simp[List.zipIdx_map,Function.comp_def]
  rw[e3,ZgN _ 0 _ (fun v hv=>by obtain⟨y,hy,rfl⟩:=List.mem_map.1 hv;simpa using hsize y hy) (by simp[hln,hyl])]
  simp
 have hrelF:∀(ps:List Opd) (zs:List Operand),ps.length=zs.length→(∀(j:Nat) (x:Opd) (y:Operand),ps[j]? =some x→zs[j]? =some y→RelL w (Zaj C h L) h L (ρ x).flat (ev y).cells.toList)→
  RelL w (Zaj C h L) h L (Zad (ps.map ρ)) ((zs.map fun y=>(ev y).cells.toList).flatten):=by
  intro ps
  induction ps with
  |nil=>intro zs hl _;cases zs with
   |nil=>exact RelL.nil
   |cons z zs=>simp at hl
  |cons p ps ih=>
   intro zs hl hh
   cases zs with
   |nil=>simp at hl
   |cons z zs=>
    have h0:=hh 0 p z rfl rfl
    have h1:=ih zs (by simpa using hl) (fun j x y hx hy=>hh (j+1) x y (by simpa using hx) (by simpa using hy))
    simp only[List.map_cons,List.flatten_cons]
    rw[Zar]
    exact h0.append h1
 have hrel:=hrelF parts ys hyl.symm (fun j x y hx hy=>(hrels j x y hx hy).1)
 rw[←hout]at hrel
 have hone:∀c∈out,c.oneCell'=true:=by
  intro c hc
  have hc:c∈out.toList:=by simpa using hc
  rw[hout]at hc
  obtain⟨l,hl,hcl⟩:=List.mem_flatten.1 hc
  obtain⟨y,hy,rfl⟩:=List.mem_map.1 hl
  obtain⟨j,x,hx,hyj⟩:=hget y hy
  exact(hrels j x y hx hyj).2.1 c (by simpa using hcl)
 have hle:parts.length≤maxLen:=by have:=Nat.le_mul_of_pos_right parts.length hpos;simp[maxLen];omega
 have hnr:=H.newRow a (e:=e) (sz:=sz) (r:=Zit (parts.map ρ)) (cur:=out) hpos (by rw[Zco];exact fun x hx=>(hel x hx).2) (by rw[Zco];exact hrel) hone (by rw[Zco,List.length_map];exact hle)
 have hlen:(Zit (parts.map ρ)).elems.length=parts.length:=by rw[Zco,List.length_map]
 refine⟨_,_, .slice (some ⟨w.heap.size,0,none⟩) parts.length parts.length, .inl ?_,hnr.1,hnr.2,fun _=>by rw[hlen];exact Zoi hlen.symm (Nat.le_refl _)⟩
 have hsm:¬(ln*sz>2^24):=by rw[hln];omega
 have e1':Instr.fill (fun i=>some (i*sz,sz)) ((Array.range (ln*sz)).map (zero[· %zero.size]!)) (parts'.map fun x=>(x.1,ev x.2)).toList=some out:=by simpa using e1
 by_cases h0:ln*sz=0
 ·have hz0:zero= #[]:=by simp[zero,h0]
  rw[hz0]at e1'
  simp only[execOp,ho,Instr.buildSlice,Sem.run_bind,Zai ht,Result.andThen_ok,ZaU hi,hsz,if_neg hsm,if_pos h0,Sem.run_pure,e1']
  simp[Go.newRow,hln]
 ·have hz0:zero=zv.cells:=by simp[zero,h0]
  rw[hz0]at e1'
  have hzz:(zeroValue e).run C.P w=.ok zv w:=by simp[zeroValue,typeInfo,hi,hz]
  simp only[execOp,ho,Instr.buildSlice,Sem.run_bind,Zai ht,Result.andThen_ok,ZaU hi,hsz,if_neg hsm,if_neg h0,Sem.run_pure,hzz,e1']
  simp[Go.newRow,hln]
theorem ZcQ(H:HRel C h L w)(kill:Nat→Nat→Prop)(hm:Zab)(hn:∀a,nxt hm a=nxt h a)(hkk:∀a i,blk hm a i=.dead∨(¬kill a i∧blk hm a i=blk h a i)){a:Nat}{e sz:Nat}{r:Row}{g n c:Nat}{cs:List Value}
 (hown:w'.ownsRow C.base e sz (.slice (some ⟨g,0,none⟩) n c) n cs) (hnr:n=r.elems.length) (hrel:RelL w (Zaj C h L) h L (Zad r.elems) cs) (hf:∀x∈r.elems,x.flat.length=sz) (h1:∀c∈cs,c.oneCell'=true) (hsz:0<sz)
 {row:Option Nat} (hg:w.grownBy w' row) (hrow:∀k,row=some k→∃b j,kill b j∧Plc h L b j∧k=L.loc b j) (hko:∀b j,kill b j→Plc h L b j→C.n0≤L.loc b j) (hgg:w.heap.size≤g∨row=some g):
 ∃L',Step w (Zaj C h L) h L w' (Zaj C (Zae hm a (.row e sz r)) L') (Zae hm a (.row e sz r)) L'∧HRel C (Zae hm a (.row e sz r)) L' w'∧Zao C (Zae hm a (.row e sz r)) L' w' (.row a (nxt h a)) (.slice (some ⟨g,0,none⟩) n c):=by
 obtain⟨hcl,⟨hv,_⟩ |⟨g',cap,cur,hv,hb,hgc,hnc,hcm,hcs,htake⟩⟩:=hown
 ·cases hv
 ·cases hv
  have hlt:g<w'.heap.size:=(Array.getElem?_eq_some_iff.1 hgc).1
  have hbel:Below C.base w w':=(Below.refl _ _).grown hg H.hbase (fun k hk=>by obtain⟨b,j,_,hl,rfl⟩:=hrow k hk;exact(H.live b j hl).1)
  obtain⟨s,H'⟩:=H.pushK (w':=w') kill hm hn hkk a (.row e sz r) g c hbel (fun k hk hne=>hg.block k hk (fun e=>by
   obtain⟨b,j,h1,h2,h3⟩:=hrow k e.symm
   exact hne b j h1 h2 h3)) (fun _=>by
    rcases hgg with hgg |hgg
    ·exact .inl ⟨hgg,hlt⟩
    ·obtain⟨b,j,h1,h2,h3⟩:=hrow g hgg;exact .inr ⟨b,j,h1,h2,h3⟩) (fun _=>by
    rcases hgg with hgg |hgg
    ·exact Nat.le_trans H.top hgg
    ·obtain⟨b,j,h1,h2,h3⟩:=hrow g hgg;rw[h3];exact hko b j h1 h2)
   (fun s=>⟨hsz,hcm,by rw[←hnr];exact hnc,hf,fun _=>⟨cur,hgc,hcs,by rw[←hnr,htake];exact hrel.step s,by rw[←hnr,htake];exact h1⟩⟩)
  refine⟨_,s,H',?_⟩
  have hp:=Zeh hm a (.row e sz r)
  rw[hn]at hp
  refine .row _ _ _ _ _ hnc ⟨by rw[ZbF,if_pos rfl,hn];omega,fun s hs=>?_⟩
  rw[hp]at hs
  cases hs
  exact⟨fun _=>by rw[Lay.put_loc],hnr,by rw[Lay.put_size]⟩
theorem ZcD(H:HRel C h L w)(kill:Nat→Nat→Prop)(hm:Zab)(hn:∀a,nxt hm a=nxt h a)(hkk:∀a i,blk hm a i=.dead∨(¬kill a i∧blk hm a i=blk h a i)){a:Nat}{e sz:Nat}{r:Row}(hr:r.elems=[])(hsz:0<sz):
 ∃L',Step w (Zaj C h L) h L w (Zaj C (Zae hm a (.row e sz r)) L') (Zae hm a (.row e sz r)) L'∧HRel C (Zae hm a (.row e sz r)) L' w∧∀ad,Zao C (Zae hm a (.row e sz r)) L' w (.row a (nxt h a)) (.slice ad 0 0):=by
 have hnp:¬plc (Blk.row e sz r).tag 0:=by
  rintro⟨s,e1,e2⟩
  cases e1
  rcases e2 with e2 |e2
  ·exact absurd e2 (by simpa using Nat.pos_iff_ne_zero.1 hsz)
  ·exact e2 rfl
 obtain⟨s,H'⟩:=H.pushK (w':=w) kill hm hn hkk a (.row e sz r) 0 0 (Below.refl _ _) (fun _ _ _=>rfl) (fun hp=>absurd hp hnp) (fun hp=>absurd hp hnp)
  (fun s=>⟨hsz,Nat.zero_le _,by simp[hr],by simp[hr],fun hh=>absurd rfl hh⟩)
 refine⟨_,s,H',fun ad=>?_⟩
 have hp:=Zeh hm a (.row e sz r)
 rw[hn]at hp
 refine .row _ _ _ _ _ (Nat.le_refl _) ⟨by rw[ZbF,if_pos rfl,hn];omega,fun s hs=>?_⟩
 rw[hp]at hs
 cases hs
 exact⟨fun hh=>absurd rfl hh,by simp[hr],by rw[Lay.put_size]⟩
theorem Zhr(w:World)(base:Nat)(e:TypeId)(zv:Value)(sz m old:Nat)(news:List Value)(hzs:zv.cells.size=sz)(hl:news.length=m*sz)(hb:base≤w.heap.size)(hm:m≤maxLen):
 (w.drew.alloc (.cells (([]:List Value).toArray++news.toArray++Builtin.zeroCells zv.cells (grownCap w m old e-m)) e)).ownsRow base e sz (.slice (some ⟨w.heap.size,0,none⟩) m (grownCap w m old e)) m news∧
   w.grownBy (w.drew.alloc (.cells (([]:List Value).toArray++news.toArray++Builtin.zeroCells zv.cells (grownCap w m old e-m)) e)) none:=by
 have hge:=grownCap_ge w m old e
 have hcm:grownCap w m old e≤maxLen:=grownCap_le_maxLen w m old e hm
 refine⟨⟨hl, .inr ⟨w.heap.size,_,_,rfl,hb,heap_alloc_new w.drew _,hge,hcm,?_,?_⟩⟩,⟨rfl,rfl,rfl,by simp,fun k hk _=>(Go.MapKept.heap_alloc w.drew _).2 k hk⟩⟩
 ·simp only[Array.size_append,List.size_toArray,size_zeroCells,hzs,hl,List.length_nil,Nat.zero_add,←Nat.add_mul]
  congr 1
  omega
 ·simp only[Array.toList_append,List.nil_append]
  rw[←hl]
  exact List.take_left
theorem Zc7(H:HRel C h L w){a:Nat}{t e:TypeId}{sz:Nat}{z:AV}{zv:Value}{i:TypeInfo}{kd kd':IntKind}{n:Int}{l' c':Operand}(ho:o.op=.makeSlice t l' c')(e1:ev l'=.int kd n)(e2:ev c'=.int kd' n)
 (ht:C.P.underlying t=some (.slice e)) (hi:C.P.info? e=some i) (hz:i.zero=some zv) (hzm:Zcb z zv=true) (hsz:i.size=sz) (hpos:0<sz) (hzs:z.flat.length=sz) (hby:i.bytes≤32768) (hzb:z.bx=true)
 (h0:0≤n) (hle:n≤4294967296):Snd C h L w ev o (Zae h a (.row e sz (ZhV std n.toNat z))) (.row a (nxt h a)):=by
 have hzr:Zao C h L w z zv:=Zbr hzm
 obtain⟨hz1,hz2⟩:=hzr.cells hzb
 have hzsz:zv.cells.size=sz:=by have:=hz1.1;simp only[Array.length_toList]at this;omega
 obtain⟨w',hr,hown,hg⟩:=run_make_full (P:=C.P) w C.base t e i zv sz ht hi hz hsz kd kd' n.toNat (by have h:=Nat.mul_le_mul hby (show n.toNat≤4294967296 by omega);omega) (by simp[maxLen];omega) H.hbase
 have hnn:((n.toNat:Nat):Int)=n:=by omega
 rw[hnn]at hr
 have hmade:∀m:Nat,(madeCells zv.cells (m*sz)).toList=(List.replicate m zv.cells.toList).flatten:=by
  intro m
  apply List.ext_getElem?
  intro j
  simp only[madeCells,hzsz,Array.toList_map,Array.toList_range]
  rw[List.getElem?_map]
  by_cases hj:j<m*sz
  ·rw[List.getElem?_range hj]
   simp only[Option.map_some]
   have hm:j%sz<zv.cells.size:=by rw[hzsz];exact Nat.mod_lt _ hpos
   have e1:zv.cells[j%sz]! =zv.cells.toList[j%sz]'(by simpa using hm):=by
    simp[getElem!_pos,hm]
   rw[e1]
   have e2:∀(m j:Nat),j<m*sz→((List.replicate m zv.cells.toList).flatten)[j]? =zv.cells.toList[j%sz]?:=by
    intro m
    induction m with
    |zero=>intro j hj;omega
    |succ m ih=>
     intro j hj
     simp only[List.replicate_succ,List.flatten_cons]
     by_cases hjs:j<sz
     ·rw[List.getElem?_append_left (by simpa[hzsz]using hjs),Nat.mod_eq_of_lt hjs]
     ·rw[List.getElem?_append_right (by simp[hzsz];omega),Array.length_toList,hzsz,ih (j-sz) (by rw[Nat.add_mul]at hj;omega)]
      congr 1
      conv=>rhs;rw[show j=j-sz+sz from by omega,Nat.add_mod_right]
   rw[e2 m j hj,List.getElem?_eq_getElem]
  ·rw[List.getElem?_eq_none (by simpa using hj),List.getElem?_eq_none (by simp[hzsz];omega)]
   rfl
 have hrel:∀m:Nat,RelL w (Zaj C h L) h L (Zad (List.replicate m z)) (List.replicate m zv.cells.toList).flatten:=by
  intro m
  induction m with
  |zero=>exact RelL.nil
  |succ m ih=>simp only[List.replicate_succ,List.flatten_cons];rw[Zar];exact hz1.append ih
 have hone:∀c∈(madeCells zv.cells (n.toNat*sz)).toList,c.oneCell'=true:=by
  intro c hc
  rw[hmade]at hc
  obtain⟨l,hl,hcl⟩:=List.mem_flatten.1 hc
  rw[List.eq_of_mem_replicate hl]at hcl
  exact hz2 c (by simpa using hcl)
 obtain⟨L',s,H',rr⟩:=ZcQ (w':=w') H (fun _ _=>False) h (fun _=>rfl) (fun _ _=>.inr ⟨fun e=>e,rfl⟩) (a:=a) (e:=e) (sz:=sz) (r:=ZhV std n.toNat z) hown (by rw[ZaY,List.length_replicate]) (by rw[ZaY,hmade];exact hrel _)
  (by rw[ZaY];intro x hx;rw[List.eq_of_mem_replicate hx];exact hzs) hone hpos hg (fun k hk=>by cases hk) (fun b j hk=>hk.elim) (.inl (Nat.le_refl _))
 exact⟨w',L',_, .inl (by simp[execOp,ho,e1,e2,hr]),s,H',fun _=>rr⟩
theorem ZbV{a i:Nat}(hl:blk h a i≠ .dead):(∀b,nxt (Zav h a i .dead) b=nxt h b)∧∀b j,blk (Zav h a i .dead) b j=.dead∨(¬(b=a∧j=i)∧blk (Zav h a i .dead) b j=blk h b j):=by
 refine⟨fun b=>ZcU _ _ _ _ _,fun b j=>?_⟩
 rw[ZbA hl]
 by_cases e:a=b∧i=j
 ·rw[if_pos e];exact .inl rfl
 ·rw[if_neg e];exact .inr ⟨fun e'=>e ⟨e'.1.symm,e'.2.symm⟩,rfl⟩
theorem Zju{sz:Nat}{r s:Row}(hr:∀x∈r.elems,x.flat.length=sz)(hs:∀x∈s.elems,x.flat.length=sz):∀x∈r.elems++s.elems,x.flat.length=sz:=fun x hx=>by
 rcases List.mem_append.1 hx with hx |hx
 ·exact hr x hx
 ·exact hs x hx
theorem ZfD(H:HRel C h L w){y:AV}{yv:Value}(ry:Zao C h L w y yv){s:Row}(hc:Zbv std h y=some (true,s)){sz:Nat}(hu:s.unit std sz=true):∃ad c us,yv=.slice ad s.elems.length c∧RelL w (Zaj C h L) h L (Zad s.elems) us∧(∀c∈us,c.oneCell'=true)∧
 (∀x∈s.elems,x.flat.length=sz)∧us.length=s.elems.length*sz∧(∀a',ad=some a'→∀(j:Nat) (v:Value),us[j]? =some v→w.cell? (a'.add j)=some v)∧(ad=none→s.elems=[]):=by
 obtain⟨ad,m,c,rfl,rfl,hmc,hsome,hnone,sz',hfl⟩:=ZbI H ry hc
 by_cases he:s.elems=[]
 ·exact⟨ad,c,[],rfl,by rw[he];exact RelL.nil,by simp,by rw[he];simp,by rw[he];simp,fun a' _ j v hj=>by simp at hj,hnone⟩
 ·have hss:sz'=sz:=by
   have hg:=Row.get_std (List.length_pos_iff.2 he)
   rw[←hfl _ (List.mem_of_getElem? hg),←ZaF]
   unfold Row.unit at hu
   split at hu
   ·exact absurd rfl he
   ·simpa[std]using hu
  subst hss
  cases ad with
  |none=>exact absurd (hnone rfl) he
  |some a'=>
   obtain⟨us,e1,e2,e3,e4,_⟩:=hsome a' rfl he
   exact⟨some a',c,us,rfl,e4,e2,hfl,by rw[e1,Zah hfl],fun b e=>by cases e;exact e3,fun e=>by cases e⟩
theorem ZgV(H:HRel C h L w){a:Nat}{t e:TypeId}{sz:Nat}{zv:Value}{i:TypeInfo}{x y:AV}{x' y':Operand}(ho:o.op=.call { callee:=.builtin .append,args:= #[x',y'],argTypes:= #[t,t] })(rx:Zao C h L w x (ev x'))(ry:Zao C h L w y (ev y'))
 (ht:C.P.underlying t=some (.slice e)) (hi:C.P.info? e=some i) (hz:i.zero=some zv) (hzs:zv.cells.size=sz) (hsz:i.size=sz) (hpos:0<sz) (hby:i.bytes≤32768)
 (hv:ZsE std h a e sz x y=some (true,v,h')):Snd C h L w ev o h' v:=by
 unfold ZsE at hv
 split at hv
 ·cases hv
 ·rename_i b s hcont
  have hun':b=true→s.unit std sz=true→_:=fun e1 e2=>ZfD H ry (e1▸hcont) e2
  have hrun:∀v v' w',ev x'=v→(Builtin.append_ #[t,t] o.type #[v,ev y']).run C.P w=.ok v' w'→(execOp ev o).run C.P w=.ok (.value v') w':=fun v v' w' e1 e2=>by
   simp[execOp,ho,resolve,invoke,builtin,e1,e2]
  -- the general step: onto a value that owns vs
  have step:b=true→s.unit std sz=true→∀(v:Value) (n:Nat) (vs:List Value),w.ownsRow C.base e sz v n vs→n+s.elems.length≤4294967296→
   ∃v' w' us,(Builtin.append_ #[t,t] o.type #[v,ev y']).run C.P w=.ok v' w'∧w'.ownsRow C.base e sz v' (n+s.elems.length) (vs++us)∧w.grownBy w' v.ownBlock∧(v'.ownBlock=v.ownBlock∨v'.ownBlock=some w.heap.size)∧
    RelL w (Zaj C h L) h L (Zad s.elems) us∧(∀c∈us,c.oneCell'=true)∧(∀x∈s.elems,x.flat.length=sz):=by
   intro hb hu v n vs hown hle
   obtain⟨ad,c,us,hyv,hrel,h1,hf,hul,hcl,hnone⟩:=hun' hb hu
   have hbb:(n+s.elems.length)*i.bytes≤140737488355328:=by
    have:=Nat.mul_le_mul hle hby;omega
   cases ad with
   |none=>
    have he:=hnone rfl
    have hus:us=[]:=List.eq_nil_of_length_eq_zero (by rw[hul,he];simp)
    subst hus
    refine⟨v,w,[],?_,by rw[he];simpa using hown,⟨rfl,rfl,rfl,Nat.le_refl _,fun _ _ _=>rfl⟩, .inl rfl,hrel,by simp,hf⟩
    rw[hyv,he]
    rcases hown.2 with⟨rfl,h0⟩ |⟨g,cap,cur,rfl,_,_,hnc,_⟩
    ·simp[Builtin.append_,Zai ht,sizeOf,typeInfo,hi,Builtin.lenOf,Builtin.firstCells]
    ·simp[Builtin.append_,Zai ht,sizeOf,typeInfo,hi,Builtin.lenOf,Builtin.firstCells,hnc,storeCells]
   |some ad=>
    obtain⟨v',w',e1,e2,e3,_,e5⟩:=run_append_own_at (P:=C.P) w C.base t o.type e i zv sz i.bytes ht hi hz hsz rfl hzs hpos v n vs hown ad s.elems.length c us hul (hcl ad rfl) h1 (by simp[maxLen];omega) hbb H.hbase
    exact⟨v',w',us,by rw[hyv];exact e1,e2,e3,e5,hrel,h1,hf⟩
  -- onto a slice without room
  have step0:b=true→s.unit std sz=true→∀ad0:Option Addr,s.elems.length≤4294967296→(s.elems=[]∧(Builtin.append_ #[t,t] o.type #[.slice ad0 0 0,ev y']).run C.P w=.ok (.slice ad0 0 0) w)∨
   ∃cap w' us,(Builtin.append_ #[t,t] o.type #[.slice ad0 0 0,ev y']).run C.P w=.ok (.slice (some ⟨w.heap.size,0,none⟩) s.elems.length cap) w'∧w'.ownsRow C.base e sz (.slice (some ⟨w.heap.size,0,none⟩) s.elems.length cap) s.elems.length us∧w.grownBy w' none∧
    RelL w (Zaj C h L) h L (Zad s.elems) us∧(∀c∈us,c.oneCell'=true)∧(∀x∈s.elems,x.flat.length=sz):=by
   intro hb hu ad0 hle
   obtain⟨ad,c,us,hyv,hrel,h1,hf,hul,hcl,hnone⟩:=hun' hb hu
   by_cases hne:s.elems=[]
   ·refine .inl ⟨hne,?_⟩
    rw[hyv,hne]
    cases ad<;>cases ad0<;>simp[Builtin.append_,Zai ht,sizeOf,typeInfo,hi,Builtin.lenOf,Builtin.firstCells,storeCells,loadCells,loadCellsFrom]
   ·have hlp:0<s.elems.length:=List.length_pos_iff.2 hne
    cases ad with
    |none=>exact absurd (hnone rfl) hne
    |some a'=>
     have hbb:(0+s.elems.length)*i.bytes≤140737488355328:=by
      have:=Nat.mul_le_mul hle hby;rw[Nat.zero_add];omega
     cases ad0 with
     |none=>
      obtain⟨v',w',us',e1,e2,e3,e4,e5,e6,e7⟩:=step hb hu (.slice none 0 0) 0 [] (World.ownsRow_nil _ _ _ _) (by omega)
      rw[Nat.zero_add,List.nil_append]at e2
      obtain⟨g,cap,rfl⟩:∃g cap,v'=.slice (some ⟨g,0,none⟩) s.elems.length cap:=by
       rcases e2.2 with⟨_,h0⟩ |⟨g,cap,cur,rfl,_⟩
       ·omega
       ·exact⟨g,cap,rfl⟩
      simp only[Value.ownBlock,reduceCtorEq,false_or,Option.some.injEq]at e4 e3
      subst e4
      exact .inr ⟨cap,w',us',e1,e2,e3,e5,e6,e7⟩
     |some b0=>
      have hr:=run_append_grow (P:=C.P) w t o.type e i zv ht hi hz b0 0 0 [] (by simp) (by simp) a' s.elems.length c us (by rw[hsz];exact hul) (hcl a' rfl) (by omega) (by omega) (growslice_fits (by omega) hbb)
      rw[Nat.zero_add]at hr
      obtain⟨o1,o2⟩:=Zhr w C.base e zv sz s.elems.length 0 us hzs hul H.hbase (by simp[maxLen];omega)
      exact .inr ⟨_,_,us,by rw[hyv];exact hr,o1,o2,hrel,h1,hf⟩
  split at hv
  · -- onto nil
    have hxv:ev x'=.slice none 0 0:=by generalize ev x'=xv at rx;cases rx;rfl
    split at hv
    ·simp only[Option.some.injEq,Prod.mk.injEq,std_and]at hv
     obtain⟨⟨rfl,hu⟩,rfl,rfl⟩:=hv
     obtain⟨ad,c,us,hyv,hrel,h1,hf,hul,hcl,hnone⟩:=hun' rfl hu
     refine .pure H (hrun _ (.slice none 0 0) w hxv ?_) .nils
     rw[hyv]
     cases ad<;>simp[Builtin.append_,Zai ht,sizeOf,typeInfo,hi,Builtin.lenOf,Builtin.firstCells,Row.elems,loadCells,loadCellsFrom]
    ·simp only[Option.some.injEq,Prod.mk.injEq,std_and]at hv
     obtain⟨⟨⟨rfl,hu⟩,hle,hne⟩,rfl,rfl⟩:=hv
     have hle:s.elems.length≤4294967296:=by rw[Row.len_std]at hle;simpa[std]using hle
     have hne:0<s.elems.length:=by rw[Row.len_std]at hne;simpa[std]using hne
     obtain⟨v',w',us,e1,e2,e3,e4,e5,e6,e7⟩:=step rfl hu (.slice none 0 0) 0 [] (World.ownsRow_nil _ _ _ _) (by omega)
     obtain⟨g,cap,rfl⟩:∃g cap,v'=.slice (some ⟨g,0,none⟩) (0+s.elems.length) cap:=by
      rcases e2.2 with⟨_,h0⟩ |⟨g,cap,cur,rfl,_⟩
      ·omega
      ·exact⟨g,cap,rfl⟩
     simp only[Value.ownBlock,reduceCtorEq,false_or,Option.some.injEq]at e4
     obtain⟨L',s',H',rr⟩:=ZcQ (w':=w') H (fun _ _=>False) h (fun _=>rfl) (fun _ _=>.inr ⟨fun e=>e,rfl⟩) (a:=a) (e:=e) (sz:=sz) (r:=s) e2 (by simp) (by simpa using e5) e7 (by simpa using e6) hpos e3 (fun k hk=>by cases hk) (fun b j hk=>hk.elim) (.inl (by omega))
     exact⟨w',L',_, .inl (hrun _ _ _ hxv e1),s',H',fun _=>rr⟩
  ·rename_i c j
   split at hv
   ·rename_i e' sz' r hcz hbk
    simp only[Option.some.injEq,Prod.mk.injEq,std_and]at hv
    obtain⟨⟨⟨rfl,hu⟩,he,hs,hle⟩,rfl,rfl⟩:=hv
    have he:e'=e:=by simpa[std]using he
    have hs:sz'=sz:=by simpa[std]using hs
    subst he;subst hs
    have hle:r.elems.length+s.elems.length≤4294967296:=by rw[Row.len_std,Row.len_std]at hle;simpa[std]using hle
    obtain⟨htg,g0,g1,g2,g3⟩:=H.rowAt hbk
    have hnd:blk h c j≠ .dead:=by rw[hbk];simp
    obtain⟨k1,k2⟩:=ZbV hnd
    generalize hxv:ev x'=xv at rx
    cases rx with
    |row _ _ ad n cc hn hl=>
     obtain⟨had,rfl,rfl⟩:=hl.2 _ htg
     by_cases hs0:L.size c j=0
     ·have hre:r.elems=[]:=List.eq_nil_of_length_eq_zero (by omega)
      have hxv:ev x'=.slice ad 0 0:=by rw[hxv,hs0];simp[hre]
      rcases step0 rfl hu ad (by omega)with⟨he,e1⟩ |⟨cap,w',us,e1,e2,e3,e5,e6,e7⟩
      ·obtain⟨L',s',H',rr⟩:=ZcD H (fun b i=>b=c∧i=j) (Zav h c j .dead) k1 k2 (a:=a) (e:=e') (sz:=sz') (r:=r.app std s) (by rw[Row.app_std,hre,he];rfl) g0
       rw[k1]
       exact⟨w,L',_, .inl (hrun _ _ _ hxv e1),s',H',fun _=>rr ad⟩
      ·obtain⟨L',s',H',rr⟩:=ZcQ (w':=w') H (fun b i=>b=c∧i=j) (Zav h c j .dead) k1 k2 (a:=a) (e:=e') (sz:=sz') (r:=r.app std s) e2 (by rw[Row.app_std,hre];rfl) (by rw[Row.app_std,hre];exact e5)
        (by rw[Row.app_std,hre];exact e7) e6 g0 e3 (fun k hk=>by cases hk) (fun b i hk ht=>by obtain⟨rfl,rfl⟩:=hk;exact H.far ht (Zb5 hcz)) (.inl (Nat.le_refl _))
       rw[k1]
       exact⟨w',L',_, .inl (hrun _ _ _ hxv e1),s',H',fun _=>rr⟩
     obtain⟨hpl,cur,h4,h5,h6,h7,h8⟩:=H.curAt hbk hs0
     have had:=had hs0
     subst had
     have hown:w.ownsRow C.base e' sz' (.slice (some ⟨L.loc c j,0,none⟩) r.elems.length (L.size c j)) r.elems.length (cur.toList.take (r.elems.length*sz')):=
      ⟨by rw[←h6.1,Zah g3], .inr ⟨_,_,cur,rfl,(H.live c j hpl).1,h4,g2,g1,h5,rfl⟩⟩
     obtain⟨v',w',us,e1,e2,e3,e4,e5,e6,e7⟩:=step rfl hu _ _ _ hown hle
     obtain⟨g,cap,rfl⟩:∃g cap,v'=.slice (some ⟨g,0,none⟩) (r.elems.length+s.elems.length) cap:=by
      rcases e2.2 with⟨rfl,h0⟩ |⟨g,cap,cur,rfl,_⟩
      ·simp[Value.ownBlock]at e4
      ·exact⟨g,cap,rfl⟩
     simp only[Value.ownBlock,Option.some.injEq]at e3 e4
     obtain⟨L',s',H',rr⟩:=ZcQ (w':=w') H (fun b i=>b=c∧i=j) (Zav h c j .dead) k1 k2 (a:=a) (e:=e') (sz:=sz') (r:=r.app std s) e2 (by rw[Row.app_std,List.length_append]) (by rw[Row.app_std,Zan];exact h6.append e5)
      (by rw[Row.app_std];exact Zju g3 e7) (fun c hc=>by
        rcases List.mem_append.1 hc with hc |hc
        ·exact h7 c hc
        ·exact e6 c hc) g0 e3 (fun k hk=>⟨c,j,⟨rfl,rfl⟩,hpl,by cases hk;rfl⟩) (fun b i hk ht=>by obtain⟨rfl,rfl⟩:=hk;exact H.far ht (Zb5 hcz)) (by
        rcases e4 with e4 |e4
        ·exact .inr (by rw[e4])
        ·exact .inl (by omega))
     rw[k1]
     exact⟨w',L',_, .inl (hrun _ _ _ hxv e1),s',H',fun _=>rr⟩
   ·cases hv
  ·rename_i c j n
   split at hv
   ·rename_i e' sz' r hbk
    simp only[Option.some.injEq,Prod.mk.injEq,std_and]at hv
    obtain⟨⟨⟨rfl,hu⟩,he,hs,hle,hrp⟩,rfl,rfl⟩:=hv
    have he:e'=e:=by simpa[std]using he
    have hs:sz'=sz:=by simpa[std]using hs
    subst he;subst hs
    have hle:n+s.elems.length≤r.elems.length:=by rw[Row.len_std,Row.len_std]at hle;simpa[std]using hle
    have hrp:0<r.elems.length:=by rw[Row.len_std]at hrp;simpa[std]using hrp
    obtain⟨ad,c',us,hyv,hrel,h1,hf,hul,hcl,hnone⟩:=hun' rfl hu
    obtain⟨htg,g0,g1,g2,g3⟩:=H.rowAt hbk
    have hsz0:L.size c j≠0:=by omega
    have hel:(r.blit std n s).elems=spl r.elems n s.elems:=Row.blit_std _ _ _
    have hfl':Zad (r.blit std n s).elems=spl (Zad r.elems) (n*sz') (Zad s.elems):=by
     rw[hel];unfold spl
     rw[Zan,Zan,ZaA _ _ g3,ZaI _ _ g3,Zah hf,Nat.add_mul]
    have hlen:(r.blit std n s).elems.length=r.elems.length:=by rw[hel,Zax hle]
    have hff:∀x∈(r.blit std n s).elems,x.flat.length=sz':=fun x hx=>by
     rw[hel]at hx
     rcases Zdw hx with hx |hx
     ·exact g3 x hx
     ·exact hf x hx
    obtain⟨cur,h4',hfit,hst,H'⟩:=H.write hbk hsz0 (r':=r.blit std n s) hfl' hlen hff (by rw[Zah hf,←Nat.add_mul];exact Nat.mul_le_mul_right _ hle) hrel h1
    generalize hxv:ev x'=xv at rx
    cases rx with
    |slc _ _ _ _ _ ad0 cc hn hl=>
     rcases hl.2 _ htg with⟨h0,_⟩ |⟨h0,_⟩ |⟨rfl,hkc,hcc⟩
     ·exact absurd rfl h0
     ·exact absurd h0 hsz0
     have hcc:cc=L.size c j:=by simpa using hcc
     subst hcc
     have hroom:n+s.elems.length≤L.size c j:=by omega
     have htag:∀sz,(blk (Zav h c j (.row e' sz' (r.blit std n s))) c j).tag=some sz→sz=(sz',r.elems.length):=fun sz hsz=>by
      rw[ZbA (by rw[hbk];simp),if_pos ⟨rfl,rfl⟩]at hsz
      simp only[Blk.tag,hlen,Option.some.injEq]at hsz
      exact hsz.symm
     refine⟨_,L, .slice (some ⟨L.loc c j,0*sz',none⟩) (n+s.elems.length) (L.size c j), .inl (hrun _ _ _ hxv ?_),hst,H',fun _=>?_⟩
     ·cases ad with
      |none=>
       have he:=hnone rfl
       have hus:us=[]:=List.eq_nil_of_length_eq_zero (by rw[hul,he];simp)
       subst hus
       have hw:w.setRow (L.loc c j) (spl cur.toList (n*sz') []).toArray=w:=by
        have:(spl cur.toList (n*sz') ([]:List Value)).toArray=cur:=by simp[spl]
        rw[this];exact setRow_self w _ cur e' (0,0) h4'
       rw[hw,hyv,he]
       simp[Builtin.append_,Zai ht,sizeOf,typeInfo,hi,Builtin.lenOf,Builtin.firstCells,storeCells,hn]
      |some ad=>
       have hra:=run_append_room (P:=C.P) w t o.type e' i ht hi (L.loc c j) n (L.size c j) cur h4' ad s.elems.length c' us (by rw[hsz];exact hul) (hcl ad rfl) h1 hroom (by rw[hsz];exact hfit)
       rw[hsz]at hra
       rw[hyv,Nat.zero_mul]
       exact hra
     ·rw[Row.len_std]
      refine .slc _ _ _ _ _ _ _ hroom ⟨by rw[ZcU];exact hl.1,fun sz hsz=>?_⟩
      have:=htag sz hsz
      subst this
      exact .inr (.inr ⟨rfl,by omega,by simp⟩)
   ·cases hv
  ·cases hv
theorem Zkf(H:HRel C h L w){a:Nat}{t tn e:TypeId}{sz:Nat}{z x:AV}{zv:Value}{i:TypeInfo}{kn kd:IntKind}{n:Int}{x' l':Operand}(ho:o.op=.call { callee:=.builtin .append,args:= #[x',l'],argTypes:= #[t,tn] })(rx:Zao C h L w x (ev x'))(e1:ev l'=.int kd n)
 (ht:C.P.underlying t=some (.slice e)) (htn:C.P.underlying tn=some (.int kn)) (hi:C.P.info? e=some i) (hz:i.zero=some zv) (hzm:Zcb z zv=true) (hzs:zv.cells.size=sz) (hsz:i.size=sz) (hpos:0<sz) (hby:i.bytes≤32768) (hzl:z.flat.length=sz) (hzb:z.bx=true)
 (hv:Zog std h a e sz z x n=some (true,v,h')):Snd C h L w ev o h' v:=by
 have hzr:Zao C h L w z zv:=Zbr hzm
 obtain⟨hz1,hz2⟩:=hzr.cells hzb
 have hrel:∀m:Nat,RelL w (Zaj C h L) h L (Zad (List.replicate m z)) (List.replicate m zv.cells.toList).flatten:=by
  intro m
  induction m with
  |zero=>exact RelL.nil
  |succ m ih=>simp only[List.replicate_succ,List.flatten_cons];rw[Zar];exact hz1.append ih
 have hone:∀(m:Nat),∀c∈(List.replicate m zv.cells.toList).flatten,c.oneCell'=true:=by
  intro m c hc
  obtain⟨l,hl,hcl⟩:=List.mem_flatten.1 hc
  rw[List.eq_of_mem_replicate hl]at hcl
  exact hz2 c (by simpa using hcl)
 have hrun:∀v v' w',ev x'=v→(Builtin.append_ #[t,tn] o.type #[v, .int kd n]).run C.P w=.ok v' w'→(execOp ev o).run C.P w=.ok (.value v') w':=fun v v' w' e2 e3=>by
  simp[execOp,ho,resolve,invoke,builtin,e1,e2,e3]
 have step:0≤n→∀(v:Value) (k:Nat) (vs:List Value),w.ownsRow C.base e sz v k vs→k+n.toNat≤4294967296→
  ∃v' w',(Builtin.append_ #[t,tn] o.type #[v, .int kd n]).run C.P w=.ok v' w'∧w'.ownsRow C.base e sz v' (k+n.toNat) (vs++(List.replicate n.toNat zv.cells.toList).flatten)∧w.grownBy w' v.ownBlock∧(v'.ownBlock=v.ownBlock∨v'.ownBlock=some w.heap.size):=by
  intro hn v k vs hown hle
  have hbb:(k+n.toNat)*i.bytes≤140737488355328:=by
   have:=Nat.mul_le_mul hle hby;omega
  have hzl:=ZeN zv hzs hpos n.toNat
  obtain⟨v',w',r1,r2,r3,r4⟩:=Zec (P:=C.P) w C.base t tn o.type e i zv sz i.bytes kd kn ht htn hi hz hsz rfl hzs hpos v k vs hown n.toNat (by rw[hzl];exact hone _) (by simp[maxLen];omega) hbb H.hbase
  have hnn:((n.toNat:Nat):Int)=n:=by omega
  rw[hnn]at r1
  rw[hzl]at r2
  exact⟨v',w',r1,r2,r3,r4⟩
 have hfl:∀(m:Nat),∀y∈(ZhV std m z).elems,y.flat.length=sz:=fun m=>by
  rw[ZaY];intro y hy;rw[List.eq_of_mem_replicate hy];exact hzl
 unfold Zog at hv
 split at hv
 ·have hxv:ev x'=.slice none 0 0:=by generalize ev x'=xv at rx;cases rx;rfl
  simp only[Option.some.injEq,Prod.mk.injEq,std_and]at hv
  obtain⟨⟨h0,hle⟩,rfl,rfl⟩:=hv
  have h0:0<n:=by simpa[std]using h0
  have hle:n≤4294967296:=by simpa[std]using hle
  obtain⟨v',w',r1,r2,r3,r4⟩:=step (by omega) (.slice none 0 0) 0 [] (World.ownsRow_nil _ _ _ _) (by omega)
  obtain⟨g,cap,rfl⟩:∃g cap,v'=.slice (some ⟨g,0,none⟩) (0+n.toNat) cap:=by
   rcases r2.2 with⟨_,h0⟩ |⟨g,cap,cur,rfl,_⟩
   ·omega
   ·exact⟨g,cap,rfl⟩
  simp only[Value.ownBlock,reduceCtorEq,false_or,Option.some.injEq]at r4
  obtain⟨L',s',H',rr⟩:=ZcQ (w':=w') H (fun _ _=>False) h (fun _=>rfl) (fun _ _=>.inr ⟨fun e=>e,rfl⟩) (a:=a) (e:=e) (sz:=sz) (r:=ZhV std n.toNat z) r2 (by rw[ZaY,List.length_replicate];omega) (by rw[ZaY];simpa using hrel n.toNat) (hfl _) (by simpa using hone n.toNat) hpos r3 (fun k hk=>by cases hk) (fun b j hk=>hk.elim) (.inl (by omega))
  exact⟨w',L',_, .inl (hrun _ _ _ hxv r1),s',H',fun _=>rr⟩
 ·rename_i c j
  split at hv
  ·rename_i e' sz' r hcz hbk
   simp only[Option.some.injEq,Prod.mk.injEq,std_and]at hv
   obtain⟨⟨h0,he,hs,hle⟩,rfl,rfl⟩:=hv
   have h0:0≤n:=by simpa[std]using h0
   have he:e'=e:=by simpa[std]using he
   have hs:sz'=sz:=by simpa[std]using hs
   subst he;subst hs
   have hle:r.elems.length+n.toNat≤4294967296:=by rw[Row.len_std]at hle;simpa[std]using hle
   obtain⟨htg,g0,g1,g2,g3⟩:=H.rowAt hbk
   have hnd:blk h c j≠ .dead:=by rw[hbk];simp
   obtain⟨k1,k2⟩:=ZbV hnd
   generalize hxv:ev x'=xv at rx
   cases rx with
   |row _ _ ad n' cc hn hl=>
    obtain⟨had,rfl,rfl⟩:=hl.2 _ htg
    by_cases hs0:L.size c j=0
    ·have hre:r.elems=[]:=List.eq_nil_of_length_eq_zero (by omega)
     have hxv:ev x'=.slice ad 0 0:=by rw[hxv,hs0];simp[hre]
     by_cases hn0:n.toNat=0
     ·have hn00:n=0:=by omega
      obtain⟨L',s',H',rr⟩:=ZcD H (fun b i=>b=c∧i=j) (Zav h c j .dead) k1 k2 (a:=a) (e:=e') (sz:=sz') (r:=r.app std (ZhV std n.toNat z)) (by rw[Row.app_std,hre,ZaY,hn0];rfl) g0
      rw[k1]
      refine⟨w,L',_, .inl (hrun _ _ _ hxv ?_),s',H',fun _=>rr ad⟩
      subst hn00
      have hw0:IntKind.i64.wrap 0=0:=by rw[IntKind.wrap_i64];rfl
      cases ad<;>simp[Builtin.append_,Zai ht,Zai htn,sizeOf,typeInfo,hi,hz,Builtin.lenOf,Builtin.firstCells,storeCells,asInt,asIntOf,hw0,zeroValue,Builtin.zeroCells]
     ·have hbb:(0+n.toNat)*i.bytes≤140737488355328:=by
       have:=Nat.mul_le_mul (show 0+n.toNat≤4294967296 by omega) hby;omega
      have hb1:n.toNat*i.bytes≤140737488355328:=by rw[Nat.zero_add]at hbb;exact hbb
      have hr:=Go.Lib.run_append_grow_zeros (P:=C.P) w t tn o.type e' i zv kd kn ht htn hi hz ad 0 0 [] (by cases ad<;>simp[Builtin.firstCells,loadCells,loadCellsFrom]) n.toNat (by omega) (by omega) (by omega) (by omega) (by omega) (growslice_fits (by omega) hbb)
      have hnn:((n.toNat:Nat):Int)=n:=by omega
      rw[hnn,Nat.zero_add]at hr
      have hzl2:=ZeN zv hzs hpos n.toNat
      have hza:Builtin.zeroCells zv.cells n.toNat=((List.replicate n.toNat zv.cells.toList).flatten).toArray:=by rw[←hzl2]
      rw[hza]at hr
      obtain⟨o1,o2⟩:=Zhr w C.base e' zv sz' n.toNat 0 (List.replicate n.toNat zv.cells.toList).flatten hzs (by rw[←hzl2,Array.length_toList,size_zeroCells,hzs]) H.hbase (by simp[maxLen];omega)
      obtain⟨L',s',H',rr⟩:=ZcQ H (fun b i=>b=c∧i=j) (Zav h c j .dead) k1 k2 (a:=a) (e:=e') (sz:=sz') (r:=r.app std (ZhV std n.toNat z)) o1 (by rw[Row.app_std,hre,ZaY];simp) (by rw[Row.app_std,hre,ZaY];exact hrel _)
       (by rw[Row.app_std,hre];exact hfl _) (hone _) g0 o2 (fun k hk=>by cases hk) (fun b i hk ht=>by obtain⟨rfl,rfl⟩:=hk;exact H.far ht (Zb5 hcz)) (.inl (Nat.le_refl _))
      rw[k1]
      exact⟨_,L',_, .inl (hrun _ _ _ hxv hr),s',H',fun _=>rr⟩
    obtain⟨hpl,cur,h4,h5,h6,h7,h8⟩:=H.curAt hbk hs0
    have had:=had hs0
    subst had
    have hown:w.ownsRow C.base e' sz' (.slice (some ⟨L.loc c j,0,none⟩) r.elems.length (L.size c j)) r.elems.length (cur.toList.take (r.elems.length*sz')):=
     ⟨by rw[←h6.1,Zah g3], .inr ⟨_,_,cur,rfl,(H.live c j hpl).1,h4,g2,g1,h5,rfl⟩⟩
    obtain⟨v',w',r1,r2,r3,r4⟩:=step h0 _ _ _ hown hle
    obtain⟨g,cap,rfl⟩:∃g cap,v'=.slice (some ⟨g,0,none⟩) (r.elems.length+n.toNat) cap:=by
     rcases r2.2 with⟨rfl,h0⟩ |⟨g,cap,cur,rfl,_⟩
     ·simp[Value.ownBlock]at r4
     ·exact⟨g,cap,rfl⟩
    simp only[Value.ownBlock,Option.some.injEq]at r3 r4
    obtain⟨L',s',H',rr⟩:=ZcQ (w':=w') H (fun b i=>b=c∧i=j) (Zav h c j .dead) k1 k2 (a:=a) (e:=e') (sz:=sz') (r:=r.app std (ZhV std n.toNat z)) r2 (by rw[Row.app_std,List.length_append,ZaY,List.length_replicate]) (by rw[Row.app_std,Zan,ZaY];exact h6.append (hrel _))
     (by rw[Row.app_std];exact Zju g3 (hfl _)) (fun c hc=>by
       rcases List.mem_append.1 hc with hc |hc
       ·exact h7 c hc
       ·exact hone _ c hc) g0 r3 (fun k hk=>⟨c,j,⟨rfl,rfl⟩,hpl,by cases hk;rfl⟩) (fun b i hk ht=>by obtain⟨rfl,rfl⟩:=hk;exact H.far ht (Zb5 hcz)) (by
       rcases r4 with e4 |e4
       ·exact .inr (by rw[e4])
       ·exact .inl (by omega))
    rw[k1]
    exact⟨w',L',_, .inl (hrun _ _ _ hxv r1),s',H',fun _=>rr⟩
  ·cases hv
 ·cases hv
end
end Go.Proofs.Ytbbemleognkdhaa
/- Soundness of all operations. No condition. -/
namespace Go.Proofs.Ytbbemleognkdhaa
open Go.RowKit (Below)
section
variable {C:Ctx}{o:Oper}{ρ:Opd→AV}{ev:Operand→Value}{h h':Zab}{w w':World}{L:Lay}{v:AV}{P:Program}
theorem Zbd(s:Row)(m:Nat):(s.sub std 0 m).elems=s.elems.take m:=by rw[Row.sub_std];simp[sub3]
theorem Zcq{sz:Nat}{xs:List AV}(hf:∀x∈xs,x.flat.length=sz)(m:Nat):∀x∈xs.take m,x.flat.length=sz:=fun x hx=>hf x (List.mem_of_mem_take hx)
theorem ZeB(H:HRel C h L w){t e:TypeId}{i:TypeInfo}{sz:Nat}{y:AV}{x' y':Operand}(ho:o.op=.call { callee:=.builtin .copy,args:= #[x',y'],argTypes:= #[t,t] })(ry:Zao C h L w y (ev y')){s:Row}(hcont:Zbv std h y=some (true,s))(hu:s.unit std sz=true)
 (ht:C.P.underlying t=some (.slice e)) (hi:C.P.info? e=some i) (hsz:i.size=sz) {a j e' sz':Nat} {r r':Row} (hbk:blk h a j=.row e' sz' r) (hs0:L.size a j≠0) {q n:Nat} {cap:Nat}
 (hx:ev x'=.slice (some ⟨L.loc a j,q,none⟩) n cap) (hfl:Zad r'.elems=spl (Zad r.elems) q (Zad (s.elems.take (min s.elems.length n)))) (hlen:r'.elems.length=r.elems.length) (hff:∀x∈r'.elems,x.flat.length=sz') (hq:q+(min s.elems.length n)*sz≤r.elems.length*sz'):
 Snd C h L w ev o (Zav h a j (.row e' sz' r')) (.int .i64 (std.int (min (s.len std) n))):=by
 obtain⟨ad,c',us,hyv,hrel,h1,hf,hul,hcl,hnone⟩:=ZfD H ry hcont hu
 have hmin:(min s.elems.length n)≤s.elems.length:=Nat.min_le_left _ _
 have hrel':=hrel.take (min s.elems.length n*sz)
 rw[←ZaA _ _ hf]at hrel'
 have htl:(us.take (min s.elems.length n*sz)).length=min s.elems.length n*sz:=by rw[List.length_take,hul];exact Nat.min_eq_left (Nat.mul_le_mul_right _ hmin)
 have h1':∀c∈us.take (min s.elems.length n*sz),c.oneCell'=true:=fun c hc=>h1 c (List.mem_of_mem_take hc)
 obtain⟨cur,h4,hfit,hst,H'⟩:=H.write hbk hs0 (r':=r') hfl hlen hff (by rw[hrel'.1,htl];exact hq) hrel' h1'
 refine⟨_,L, .int .i64 (min s.elems.length n:Nat), .inl ?_,hst,H',fun _=>by rw[Row.len_std];exact .int _ _⟩
 cases ad with
 |none=>
  have he:=hnone rfl
  have hus:us=[]:=List.eq_nil_of_length_eq_zero (by rw[hul,he];simp)
  subst hus
  have hw:w.setRow (L.loc a j) (spl cur.toList q (([]:List Value).take (min s.elems.length n*sz))).toArray=w:=by
   have:(spl cur.toList q (([]:List Value).take (min s.elems.length n*sz))).toArray=cur:=by simp[spl]
   rw[this];exact setRow_self w _ cur e' (0,0) h4
  rw[hw,he]
  simp[execOp,ho,resolve,invoke,builtin,hx,hyv,he,Builtin.copy_,Zai ht,Builtin.lenOf,Builtin.firstCells,sizeOf,typeInfo,hi,storeCells,goInt]
 |some ad=>
  have hl:=run_loadCells_list (P:=C.P) w ad (us.take (min s.elems.length n*sz)) (fun j v hj=>by
   rw[List.getElem?_take]at hj
   split at hj
   ·exact hcl ad rfl j v hj
   ·cases hj)
  rw[htl]at hl
  have hst:=run_storeCells_at C.P (L.loc a j) q e' (us.take (min s.elems.length n*sz)) 0 cur w h4 (by simpa using hfit) h1'
  simp only[Nat.add_zero]at hst
  simp[execOp,ho,resolve,invoke,builtin,hx,hyv,Builtin.copy_,Zai ht,Builtin.lenOf,Builtin.firstCells,sizeOf,typeInfo,hi,hsz,hl,hst,goInt,spl]
theorem HRel.rerel(H:HRel C h L w){a j e sz:Nat}{r r':Row}(hbk:blk h a j=.row e sz r)(hlen:r'.elems.length=r.elems.length)(hf:∀x∈r'.elems,x.flat.length=sz)(hx:∀cs,RelL w (Zaj C h L) h L (Zad r.elems) cs→RelL w (Zaj C h L) h L (Zad r'.elems) cs):
 Step w (Zaj C h L) h L w (Zaj C (Zav h a j (.row e sz r')) L) (Zav h a j (.row e sz r')) L∧HRel C (Zav h a j (.row e sz r')) L w:=by
 obtain⟨htg,g0,g1,g2,g3⟩:=H.rowAt hbk
 have hnd:blk h a j≠ .dead:=by rw[hbk];simp
 have hblk:∀c i,blk (Zav h a j (.row e sz r')) c i=if a=c∧j=i then .row e sz r' else blk h c i:=fun c i=>ZbA hnd c i _
 have htag:∀c i,(blk (Zav h a j (.row e sz r')) c i).tag=(blk h c i).tag:=fun c i=>by
  rw[hblk];split
  ·rename_i e';obtain⟨rfl,rfl⟩:=e';rw[htg];simp[Blk.tag,hlen]
  ·rfl
 have hp:∀c i,Plc (Zav h a j (.row e sz r')) L c i→Plc h L c i:=fun c i p=>p.to (htag c i).symm rfl
 have hs:Step w (Zaj C h L) h L w (Zaj C (Zav h a j (.row e sz r')) L) (Zav h a j (.row e sz r')) L:=by
  refine⟨Nat.le_refl _,fun k hk ho=>⟨?_,rfl⟩,fun c=>by rw[ZcU];exact Nat.le_refl _,fun c i sz _ htt=>⟨by rw[←htag];exact htt,rfl,rfl⟩⟩
  rcases ho with ho |⟨h1,h2⟩
  ·exact .inl ho
  ·exact .inr ⟨h1,fun c i hc=>h2 c i (hp c i hc)⟩
 refine⟨hs,H.below,fun c i p=>H.live c i (hp c i p),fun c i=>?_,fun c i b k h1 h2 e=>H.inj c i b k (hp c i h1) (hp b k h2) e,fun c i p=>H.home c i (hp c i p),H.low,H.base,H.good⟩
 rw[hblk]
 split
 ·rename_i e'
  obtain⟨rfl,rfl⟩:=e'
  refine⟨g0,g1,by rw[hlen];exact g2,hf,fun hn=>?_⟩
  obtain⟨_,cur,h4,h5,h6,h7,_⟩:=H.curAt hbk hn
  exact⟨cur,h4,h5,by rw[hlen];exact(hx _ h6).step hs,by rw[hlen];exact h7⟩
 ·exact(H.blks c i).step hs fun _=>rfl
theorem HRel.same(H:HRel C h L w){a j e sz:Nat}{r r':Row}(hbk:blk h a j=.row e sz r)(hr0:r'.elems=r.elems):
 Step w (Zaj C h L) h L w (Zaj C (Zav h a j (.row e sz r')) L) (Zav h a j (.row e sz r')) L∧HRel C (Zav h a j (.row e sz r')) L w:=
 H.rerel hbk (by rw[hr0]) (by rw[hr0];exact(H.rowAt hbk).2.2.2.2) (fun cs hc=>by rw[hr0];exact hc)
theorem HRel.shrink(H:HRel C h L w){a j e sz m:Nat}{r:Row}(hbk:blk h a j=.row e sz r)(hz:a≠0)(hm:m≤r.elems.length):
 ∃L',Step w (Zaj C h L) h L w (Zaj C (Zae (Zav h a j .dead) a (.row e sz (r.sub std 0 m))) L') (Zae (Zav h a j .dead) a (.row e sz (r.sub std 0 m))) L'∧HRel C (Zae (Zav h a j .dead) a (.row e sz (r.sub std 0 m))) L' w∧
  ∀v,Zao C h L w (.slc a j 0 m none) v→Zao C (Zae (Zav h a j .dead) a (.row e sz (r.sub std 0 m))) L' w (.row a (nxt (Zav h a j .dead) a)) v:=by
 obtain⟨htg,g0,g1,g2,g3⟩:=H.rowAt hbk
 have hnd:blk h a j≠ .dead:=by rw[hbk];simp
 obtain⟨k1,k2⟩:=ZbV hnd
 have hel:(r.sub std 0 m).elems=r.elems.take m:=Zbd r m
 rw[k1]
 by_cases hs0:L.size a j=0
 ·obtain⟨L',s',H',rr⟩:=ZcD H (fun b i=>b=a∧i=j) (Zav h a j .dead) k1 k2 (a:=a) (e:=e) (sz:=sz) (r:=r.sub std 0 m) (by rw[hel,List.eq_nil_of_length_eq_zero (show r.elems.length=0 by omega)];simp) g0
  refine⟨L',s',H',fun v hv=>?_⟩
  cases hv with
  |slc _ _ _ _ _ ad c hn hl=>
   rcases hl.2 _ htg with⟨h0,_⟩ |⟨_,h0⟩ |⟨_,h0,_⟩
   ·exact absurd rfl h0
   ·obtain rfl:m=0:=by omega
    rw[h0];exact rr ad
   ·obtain rfl:m=0:=by omega
    obtain rfl:c=0:=by omega
    exact rr ad
 ·obtain⟨hpl,cur,h4,h5,h6,h7,_⟩:=H.curAt hbk hs0
  have hle:m*sz≤r.elems.length*sz:=Nat.mul_le_mul_right _ hm
  have hfl:Zad (r.sub std 0 m).elems=(Zad r.elems).take (m*sz):=by rw[hel];exact ZaA _ _ g3
  have hll:(r.sub std 0 m).elems.length=m:=by rw[hel,List.length_take];omega
  obtain⟨s,H'⟩:=H.pushK (w':=w) (fun b i=>b=a∧i=j) (Zav h a j .dead) k1 k2 a (.row e sz (r.sub std 0 m)) (L.loc a j) (L.size a j) (Below.refl _ _) (fun _ _ _=>rfl) (fun _=>.inr ⟨a,j,⟨rfl,rfl⟩,hpl,rfl⟩) (fun _=>H.far hpl hz)
   (fun s=>⟨g0,g1,by rw[hll];omega,fun x hx=>g3 x (List.mem_of_mem_take (by rw[hel]at hx;exact hx)),fun _=>⟨cur,h4,h5,by
     rw[hll,hfl]
     have:=(h6.take (m*sz)).step s
     rwa[List.take_take,Nat.min_eq_left hle]at this,fun c hc=>h7 c (by
     rw[hll]at hc
     exact List.mem_of_mem_take (by rw[List.take_take,Nat.min_eq_left hle];exact hc))⟩⟩)
  refine⟨_,s,H',fun v hv=>?_⟩
  have hp:=Zeh (Zav h a j .dead) a (.row e sz (r.sub std 0 m))
  rw[k1]at hp
  cases hv with
  |slc _ _ _ _ _ ad c hn hl=>
   rcases hl.2 _ htg with⟨h0,_⟩ |⟨h0,_⟩ |⟨rfl,h0,h1⟩
   ·exact absurd rfl h0
   ·exact absurd h0 hs0
   ·refine .row _ _ _ _ _ hn ⟨by rw[ZbF,if_pos rfl,k1];omega,fun s hs=>?_⟩
    rw[hp]at hs
    cases hs
    exact⟨fun _=>by rw[Lay.put_loc];simp,hll.symm,by rw[Lay.put_size];simpa using h1⟩
theorem ZkN(H:HRel C h L w){t e:TypeId}{i:TypeInfo}{sz:Nat}{x y:AV}{x' y':Operand}(ho:o.op=.call { callee:=.builtin .copy,args:= #[x',y'],argTypes:= #[t,t] })(rx:Zao C h L w x (ev x'))(ry:Zao C h L w y (ev y'))
 (ht:C.P.underlying t=some (.slice e)) (hi:C.P.info? e=some i) (hsz:i.size=sz) (hpos:0<sz) (hv:ZnJ std h sz x y=some (true,v,h')):Snd C h L w ev o h' v:=by
 unfold ZnJ at hv
 split at hv
 ·cases hv
 ·rename_i b s hcont
  generalize hxv:ev x'=xv at rx
  split at hv
  ·rename_i c j
   split at hv
   ·rename_i e' sz' r hbk
    simp only[Option.some.injEq,Prod.mk.injEq,std_and]at hv
    obtain⟨⟨⟨rfl,hu⟩,hs⟩,rfl,rfl⟩:=hv
    have hs:sz'=sz:=by simpa[std]using hs
    subst hs
    obtain⟨htg,g0,g1,g2,g3⟩:=H.rowAt hbk
    obtain⟨ad,c',us,hyv,_,_,hf,_⟩:=ZfD H ry hcont hu
    cases rx with
    |row _ _ ad0 n cc hn hl=>
     obtain⟨had,rfl,rfl⟩:=hl.2 _ htg
     have hel:(r.blit std 0 (s.sub std 0 (min (s.len std) (r.len std)))).elems=spl r.elems 0 (s.elems.take (min s.elems.length r.elems.length)):=by
      rw[Row.blit_std,Zbd,Row.len_std,Row.len_std];rfl
     have hmin:(s.elems.take (min s.elems.length r.elems.length)).length≤r.elems.length:=by rw[List.length_take];omega
     by_cases hs0:L.size c j=0
     ·have hre:r.elems=[]:=List.eq_nil_of_length_eq_zero (by omega)
      have hr0:(r.blit std 0 (s.sub std 0 (min (s.len std) (r.len std)))).elems=r.elems:=by rw[hel,hre];simp[spl]
      obtain⟨s1,s2⟩:=H.same hbk hr0
      refine⟨w,L, .int .i64 0, .inl ?_,s1,s2,fun _=>by rw[Row.len_std,Row.len_std,hre];simp[std];exact .int _ _⟩
      have hxv:ev x'=.slice ad0 0 0:=by rw[hxv,hs0];simp[hre]
      cases ad with
      |none=>cases ad0<;>simp[execOp,ho,resolve,invoke,builtin,hxv,hyv,Builtin.copy_,Zai ht,Builtin.lenOf,Builtin.firstCells,sizeOf,typeInfo,hi,storeCells,goInt]
      |some a2=>cases ad0<;>simp[execOp,ho,resolve,invoke,builtin,hxv,hyv,Builtin.copy_,Zai ht,Builtin.lenOf,Builtin.firstCells,sizeOf,typeInfo,hi,storeCells,goInt,loadCells,loadCellsFrom]
     have had:=had hs0
     subst had
     have:=ZeB H ho ry hcont hu ht hi hsz hbk hs0 (r':=r.blit std 0 (s.sub std 0 (min (s.len std) (r.len std)))) (q:=0) (n:=r.elems.length) hxv
      (by rw[hel];unfold spl;rw[Zan,Zan,ZaI _ _ g3,Zah (Zcq hf _),Nat.zero_add,Nat.zero_add];simp[Zad])
      (by rw[hel,Zax (by omega)])
      (fun x hx=>by
        rw[hel]at hx
        rcases Zdw hx with hx |hx
        ·exact g3 x hx
        ·exact Zcq hf _ x hx)
      (by rw[Nat.zero_add];exact Nat.mul_le_mul_right _ (Nat.min_le_right _ _))
     rw[Row.len_std r]at this⊢
     exact this
   ·cases hv
  ·rename_i c j k n cp
   split at hv
   ·rename_i e' sz' r hbk
    simp only[Option.some.injEq,Prod.mk.injEq,std_and]at hv
    obtain⟨⟨⟨rfl,hu⟩,hs,hkn⟩,rfl,rfl⟩:=hv
    have hs:sz'=sz:=by simpa[std]using hs
    subst hs
    have hkn:k+n≤r.elems.length:=by rw[Row.len_std]at hkn;simpa[std]using hkn
    obtain⟨htg,g0,g1,g2,g3⟩:=H.rowAt hbk
    obtain⟨ad,c',us,hyv,_,_,hf,_,_,hnone⟩:=ZfD H ry hcont hu
    have hel:(r.blit std k (s.sub std 0 (min (s.len std) n))).elems=spl r.elems k (s.elems.take (min s.elems.length n)):=by
     rw[Row.blit_std,Zbd,Row.len_std];rfl
    have hmin:k+(s.elems.take (min s.elems.length n)).length≤r.elems.length:=by rw[List.length_take];omega
    have hfl:Zad (r.blit std k (s.sub std 0 (min (s.len std) n))).elems=spl (Zad r.elems) (k*sz') (Zad (s.elems.take (min s.elems.length n))):=by
     rw[hel];unfold spl;rw[Zan,Zan,ZaA _ _ g3,ZaI _ _ g3,Zah (Zcq hf _),Nat.add_mul]
    have hff:∀x∈(r.blit std k (s.sub std 0 (min (s.len std) n))).elems,x.flat.length=sz':=fun x hx=>by
     rw[hel]at hx
     rcases Zdw hx with hx |hx
     ·exact g3 x hx
     ·exact Zcq hf _ x hx
    cases rx with
    |slc _ _ _ _ _ ad0 cc hn hl=>
     by_cases hn0:n=0
     · -- nothing is copied
       subst hn0
       have hr0:(r.blit std k (s.sub std 0 (min (s.len std) 0))).elems=r.elems:=by rw[hel];simp[spl]
       obtain⟨s1,s2⟩:=H.same hbk hr0
       refine⟨w,L, .int .i64 0, .inl ?_,s1,s2,fun _=>by rw[Row.len_std];simp[std];exact .int _ _⟩
       cases ad with
       |none=>cases ad0<;>simp[execOp,ho,resolve,invoke,builtin,hxv,hyv,Builtin.copy_,Zai ht,Builtin.lenOf,Builtin.firstCells,sizeOf,typeInfo,hi,storeCells,goInt]
       |some a2=>cases ad0<;>simp[execOp,ho,resolve,invoke,builtin,hxv,hyv,Builtin.copy_,Zai ht,Builtin.lenOf,Builtin.firstCells,sizeOf,typeInfo,hi,storeCells,goInt,loadCells,loadCellsFrom]
     ·rcases hl.2 _ htg with⟨_,h0,_⟩ |⟨_,h0⟩ |⟨rfl,hkc,hcc⟩
      ·exact absurd h0 hn0
      ·exact absurd (by omega) hn0
      exact ZeB H ho ry hcont hu ht hi hsz hbk (by omega) hxv hfl (by rw[hel,Zax hmin]) hff (by
       rw[←Nat.add_mul];exact Nat.mul_le_mul_right _ (by omega))
   ·cases hv
  ·rename_i c j k off n
   split at hv
   ·rename_i e' sz' r hbk
    split at hv
    ·rename_i us hget0
     simp only[Option.some.injEq,Prod.mk.injEq,std_and]at hv
     obtain⟨⟨⟨rfl,hu⟩,hk,hs,hsing,hon⟩,rfl,rfl⟩:=hv
     have hs:sz=1:=by simpa[std]using hs
     subst hs
     have hk:k<r.elems.length:=by rw[Row.len_std]at hk;simpa[std]using hk
     have hon:off+n≤us.elems.length:=by rw[Row.len_std]at hon;simpa[std]using hon
     obtain⟨htg,g0,g1,g2,g3⟩:=H.rowAt hbk
     obtain⟨ad,c',us2,hyv,_,_,hf,_,_,hnone⟩:=ZfD H ry hcont hu
     have hget:=Row.get_std hk
     rw[hget0]at hget
     have hul:us.elems.length=sz':=by have:=g3 _ (List.mem_of_getElem? hget);simpa[AV.flat]using this
     have hbl:(us.blit std off (s.sub std 0 (min (s.len std) n))).elems=spl us.elems off (s.elems.take (min s.elems.length n)):=by
      rw[Row.blit_std,Zbd,Row.len_std];rfl
     have htl:(s.elems.take (min s.elems.length n)).length=min s.elems.length n:=by rw[List.length_take];omega
     have hge:k*sz'+sz'≤r.elems.length*sz':=by
      have:=Nat.mul_le_mul_right sz' (Nat.succ_le_of_lt hk)
      rwa[Nat.succ_mul]at this
     have hfa:=Zah g3
     have hsing':∀x∈s.elems.take (min s.elems.length n),x.single=true:=fun x hx=>Row.sing_std hsing x (List.mem_of_mem_take hx)
     have hfl1:=ZaE hsing'
     have hvl:(AV.agg (us.blit std off (s.sub std 0 (min (s.len std) n)))).flat.length=sz':=by
      show(us.blit std off _).elems.length=sz'
      rw[hbl,Zax (by omega)];exact hul
     have hfl':Zad (r.set std k (.agg (us.blit std off (s.sub std 0 (min (s.len std) n))))).elems=spl (Zad r.elems) (k*sz'+off) (Zad (s.elems.take (min s.elems.length n))):=by
      rw[Row.set_std,ZeU g3 hk hvl]
      show spl _ _ (us.blit std off _).elems=_
      rw[hbl,hfl1]
      exact ZlQ (by omega) (fun j hj=>ZcB g3 hget j hj) hul (by omega)
     cases rx with
     |aslc _ _ _ _ _ g oo cc hn hl=>
      rcases hl.2 _ htg with rfl |⟨rfl,rfl⟩
      ·have hw:=H.write hbk (by omega) (r':=r.set std k (.agg (us.blit std off (s.sub std 0 (min (s.len std) 0))))) (q:=0) (xs:=[]) (ys:=[]) (by rw[hfl'];simp[spl,Zad]) (by rw[Row.set_std,List.length_set]) (by rw[Row.set_std];exact ZeD g3 hvl) (by simp) RelL.nil (by simp)
       obtain⟨cur,h4,_,h6,h7⟩:=hw
       have:(spl cur.toList 0 ([]:List Value)).toArray=cur:=by simp[spl]
       rw[this,setRow_self w _ cur e' (0,0) h4]at h6 h7
       refine⟨w,L, .int .i64 0, .inl ?_,h6,h7,fun _=>by rw[Row.len_std];simp[std];exact .int _ _⟩
       cases ad with
       |none=>simp[execOp,ho,resolve,invoke,builtin,hxv,hyv,Builtin.copy_,Zai ht,Builtin.lenOf,Builtin.firstCells,sizeOf,typeInfo,hi,storeCells,goInt]
       |some a2=>simp[execOp,ho,resolve,invoke,builtin,hxv,hyv,Builtin.copy_,Zai ht,Builtin.lenOf,Builtin.firstCells,sizeOf,typeInfo,hi,storeCells,goInt,loadCells,loadCellsFrom]
      ·exact ZeB H ho ry hcont hu ht hi hsz hbk (by omega) (q:=k*sz'+off) hxv hfl' (by rw[Row.set_std,List.length_set]) (by rw[Row.set_std];exact ZeD g3 hvl) (by omega)
    ·cases hv
   ·cases hv
  ·cases hv
theorem ZjH{ok:Nat→Prop}{s:Sh}{v:AV}{x:Value}(hr:Rel w ok h L v x):Rel w ok h L (Zpx s v) x:=by
 unfold Zpx
 split
 ·cases hr;exact .nil _ _ _ rfl
 ·cases hr;exact .nil _ _ _ rfl
 ·exact hr
theorem Zjt:∀(ss:List Sh) (xs:List AV) (j:Nat),(ZoX ss xs)[j]? =match xs[j]?,ss[j]? with |some x,some s=>some (Zpx s x) |some x,none=>some x |none,_=>none
 |s::ss,x::xs,0=>rfl
 |s::ss,x::xs,j+1=>by simp only[ZoX,List.getElem?_cons_succ];exact Zjt ss xs j
 |[],xs,j=>by simp only[ZoX];cases xs[j]?<;>simp
 |s::ss,[],j=>by simp[ZoX]
theorem ZgA:∀(ss:List Sh) (xs:List AV),(ZoX ss xs).length=xs.length
 |s::ss,x::xs=>by simp only[ZoX,List.length_cons,ZgA ss xs]
 |[],xs=>rfl
 |s::ss,[]=>rfl
theorem Zqq{ok:Nat→Prop}{s:Sh}{v:AV}{x:Value}(hr:Rel w ok h L v x):Rel w ok h L (zsh s v) x:=by
 unfold zsh
 split
 ·rename_i ss xs
  cases hr with
  |agg _ ys hy vs hl h1 hh=>
   subst hy
   refine .agg _ _ rfl vs (by simp only[Row.elems,ZgA];exact hl) h1 (fun j u v hu hv=>?_)
   simp only[Row.elems]at hu
   rw[Zjt]at hu
   split at hu
   ·rename_i y s hy hs
    cases hu;exact ZjH (hh j y v hy hv)
   ·rename_i y hy hs
    cases hu;exact hh j _ v hy hv
   ·cases hu
 ·exact hr
 ·exact ZjH hr
theorem Zom(s:Sh)(v:AV):(zsh s v).flat.length=v.flat.length:=by
 unfold zsh
 split
 ·simp[AV.flat,Row.elems,ZgA]
 ·rfl
 ·rename_i s v _ _
  unfold Zpx
  split<;>rfl
theorem Zrc(s:Sh){v:AV}(hb:v.bx=true):(zsh s v).bx=true:=by
 unfold zsh
 split
 ·rfl
 ·exact hb
 ·rename_i s v _ _
  unfold Zpx
  split<;>first |rfl |exact hb
theorem Zmq{n:Nat}{z:AV}{r s:Row}(hs:Zup std n z r=some s):∃z',s.elems=List.replicate n z'∧(z'=z∨∃sh,z'=zsh sh z):=by
 unfold Zup at hs
 split at hs
 ·rename_i sh xs
  split at hs
  ·rename_i hc
   simp only[Option.some.injEq]at hs
   subst hs
   refine⟨zsh sh z,?_, .inr ⟨sh,rfl⟩⟩
   show(List.replicate n (zsh sh z)).map sh.view=_
   rw[List.map_replicate,Zdl hc]
  ·cases hs
 ·simp only[Option.some.injEq]at hs
  subst hs
  exact⟨z,ZaY n z, .inl rfl⟩
theorem Zmi(H:HRel C h L w){t e:TypeId}{i:TypeInfo}{zv:Value}{sz:Nat}{z x:AV}{x':Operand}(ho:o.op=.call { callee:=.builtin .clear,args:= #[x'],argTypes:= #[t] })(rx:Zao C h L w x (ev x'))
 (ht:C.P.underlying t=some (.slice e)) (hi:C.P.info? e=some i) (hz:i.zero=some zv) (hsz:i.size=sz) (hzc:zv.cells.size=sz) (hpos:0<sz) (hzm:Zcb z zv=true) (hzb:z.bx=true) (hzs:z.flat.length=sz)
 (hv:ZsC std h sz z x=some (true,v,h')):Snd C h L w ev o h' v:=by
 unfold ZsC at hv
 split at hv
 case h_2=>cases hv
 rename_i c j k n cp
 split at hv
 case h_2=>cases hv
 rename_i e' sz' r hbk
 split at hv
 case h_2=>cases hv
 rename_i s hs
 simp only[Option.some.injEq,Prod.mk.injEq,std_and]at hv
 obtain⟨⟨hq,hkn⟩,rfl,rfl⟩:=hv
 have hq:sz'=sz:=by simpa[std]using hq
 subst hq
 have hkn:k+n≤r.elems.length:=by rw[Row.len_std]at hkn;simpa[std]using hkn
 obtain⟨z',hel,hz'⟩:=Zmq hs
 have hzr:Zao C h L w z' zv:=by
  rcases hz' with rfl |⟨sh,rfl⟩
  ·exact Zbr hzm
  ·exact Zqq (Zbr hzm)
 have hzb':z'.bx=true:=by
  rcases hz' with rfl |⟨sh,rfl⟩
  ·exact hzb
  ·exact Zrc sh hzb
 have hzl:z'.flat.length=sz':=by
  rcases hz' with rfl |⟨sh,rfl⟩
  ·exact hzs
  ·rw[Zom];exact hzs
 obtain⟨hz1,hz2⟩:=hzr.cells hzb'
 obtain⟨htg,g0,g1,g2,g3⟩:=H.rowAt hbk
 have hrel:∀m:Nat,RelL w (Zaj C h L) h L (Zad (List.replicate m z')) (List.replicate m zv.cells.toList).flatten:=by
  intro m
  induction m with
  |zero=>exact RelL.nil
  |succ m ih=>simp only[List.replicate_succ,List.flatten_cons];rw[Zar];exact hz1.append ih
 have hone:∀c∈(List.replicate n zv.cells.toList).flatten,c.oneCell'=true:=by
  intro c hc
  obtain⟨l,hl,hcl⟩:=List.mem_flatten.1 hc
  rw[List.eq_of_mem_replicate hl]at hcl
  exact hz2 c (by simpa using hcl)
 have hfs:∀x∈s.elems,x.flat.length=sz':=fun x hx=>by rw[hel]at hx;rw[List.eq_of_mem_replicate hx];exact hzl
 have hsl:s.elems.length=n:=by rw[hel,List.length_replicate]
 have hbl:(r.blit std k s).elems=spl r.elems k s.elems:=by rw[Row.blit_std];rfl
 have hfl:Zad (r.blit std k s).elems=spl (Zad r.elems) (k*sz') (Zad s.elems):=by
  rw[hbl];unfold spl;rw[Zan,Zan,ZaA _ _ g3,ZaI _ _ g3,Zah hfs,Nat.add_mul]
 have hff:∀x∈(r.blit std k s).elems,x.flat.length=sz':=fun x hx=>by
  rw[hbl]at hx
  rcases Zdw hx with hx |hx
  ·exact g3 x hx
  ·exact hfs x hx
 have hlen:(r.blit std k s).elems.length=r.elems.length:=by rw[hbl,Zax (by omega)]
 generalize hxv:ev x'=xv at rx
 cases rx with
 |slc _ _ _ _ _ ad0 cc hn hl=>
  by_cases hn0:n=0
  ·subst hn0
   have hr0:(r.blit std k s).elems=r.elems:=by rw[hbl,List.eq_nil_of_length_eq_zero hsl];simp[spl]
   obtain⟨h6,h7⟩:=H.same hbk hr0
   refine⟨w,L, .tuple #[], .inl ?_,h6,h7,fun _=>.tup _ _ rfl (fun j u v hu _=>by simp at hu)⟩
   cases ad0<;>simp[execOp,ho,resolve,invoke,builtin,hxv,Builtin.clear_,Zai ht]
  ·rcases hl.2 _ htg with⟨_,h0,_⟩ |⟨_,h0⟩ |⟨rfl,_⟩
   ·exact absurd h0 hn0
   ·exact absurd (by omega) hn0
   ·have hrs:=hrel n
    have hzz:(List.replicate n zv.cells.toList).flatten.length=n*sz':=by
     have h9:=hrs.1
     have h8:=Zah (xs:=List.replicate n z') (sz:=sz') (fun x hx=>by rw[List.eq_of_mem_replicate hx];exact hzl)
     rw[List.length_replicate]at h8
     omega
    rw[←hel]at hrs
    obtain⟨cur,h4,hfit,hst,H'⟩:=H.write hbk (by omega) (r':=r.blit std k s) hfl hlen hff (by rw[Zah hfs,hsl,←Nat.add_mul];exact Nat.mul_le_mul_right _ hkn) hrs hone
    refine⟨_,L, .tuple #[], .inl ?_,hst,H',fun _=>.tup _ _ rfl (fun j u v hu _=>by simp at hu)⟩
    have hst:=run_storeCells_at C.P (L.loc c j) (k*sz') e' (List.replicate n zv.cells.toList).flatten 0 cur w h4 (by simpa using hfit) hone
    simp only[Nat.add_zero]at hst
    have hzl2:=ZeN zv hzc hpos n
    obtain⟨m,rfl⟩:∃m,n=m+1:=⟨n-1,by omega⟩
    simp[execOp,ho,resolve,invoke,builtin,hxv,Builtin.clear_,Zai ht,zeroValue,typeInfo,hi,hz,hzl2,hst,spl]
end
end Go.Proofs.Ytbbemleognkdhaa
