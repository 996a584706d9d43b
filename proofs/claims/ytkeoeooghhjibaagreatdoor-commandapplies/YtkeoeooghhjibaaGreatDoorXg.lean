/- Soundness of addresses, parts, slices of slices, tuples, closures. No condition. -/
import Derived.Test.YtkeoeooghhjibaaGreatDoorXe
namespace Go.Proofs.YtkeoeooghhjibaaGreatDoor
open Go.RowKit (Below)
section
variable {C:Ctx}{o:Oper}{ρ:Opd→AV}{ev:Operand→Value}{h:Zad}{w:World}{L:Lay}{v:AV}{P:Program}
theorem ZnA(H:HRel C h L w){t:TypeId}{fs:Array Field}{f:Nat}{fd:Field}{i:TypeInfo}{off:Nat}{p:AV}{p':Operand}(ho:o.op=.fieldAddr t p' f)(rp:ZaH C h L w p (ev p'))
 (ht:C.P.underlying t=some (.struct fs)) (hf:fs[f]? =some fd) (hoff:fd.offset=off) (hi:C.P.info? fd.type=some i) (hz:i.size≠0)
 (hv:ZsZ std off p=some (true,v)):Snd C h L w ev o h v:=by
 have run:∀ad:Addr,ev p'=.pointer (some ad)→(execOp ev o).run C.P w=.ok (.value (.pointer (some (ad.add off)))) w:=fun ad he=>by
  simp[execOp,ho,Instr.fieldAt,Zay ht,hf,he,Instr.sureAddr,fieldPlace,ZbB hi,hz,hoff]
 generalize hpv:ev p'=pv at*
 unfold ZsZ at hv
 split at hv
 ·rename_i a j k q
  simp only[zS,zP,true_and]at hv
  subst hv
  cases rp with
  |ptr _ _ _ _ g oo hl=>exact .pure H (run _ rfl) (by rw[Zbn];exact .ptr _ _ _ _ _ _ ⟨hl.1,fun sz hsz=>⟨(hl.2 sz hsz).1,by have:=(hl.2 sz hsz).2;omega⟩⟩)
 ·rename_i u q
  simp only[zS,zP,true_and]at hv
  subst hv
  obtain⟨ad,cs,rfl,hsp,hb,hok,hl,h1,hc,hp,hr⟩:=ZkU rp
  exact .pure H (run _ rfl) (by rw[Zgh];exact .eptr u _ ad cs hsp hb hok hl h1 hc hp hr.2)
 ·cases hv
theorem ZmT{ad:Addr}{v:Value}(h:w.cell? ad=some v):ad.spot=none:=by
 unfold World.cell? at h
 split at h
 ·split at h
  ·cases h
  ·rename_i hh;simpa using hh
 ·cases h
theorem Zlh{r:Row}{x:Value}(hr:ZaH C h L w (.list r) x)(hne:r.elems≠[]):∃(ad:Addr) (n cap sz:Nat) (cs:List Value),x=.slice (some ad) n cap∧ad.block<w.heap.size∧Zaz C h L ad.block∧n=r.elems.length∧n≤cap∧
 (∀x∈r.elems,x.flat.length=sz)∧(∀v∈cs,v.oneCell'=true)∧(∀(j:Nat) (v:Value),cs[j]? =some v→w.cell? (ad.add j)=some v)∧AV.pureL (Zai r.elems)=true∧
 RelL w (Zaz C h L) h L (Zai r.elems) cs:=by
 cases hr with
 |nil _ _ _ he=>exact absurd he hne
 |list _ xs hx ad n cap sz cs hb hok hn hcap hsz hl h1 hc hp hrr=>subst hx;exact⟨ad,n,cap,sz,cs,rfl,hb,hok,hn,hcap,hsz,h1,hc,hp,hl.symm,hrr⟩
theorem Zg4:∀ {xs:zA},AV.pureL xs=true→∀k n,AV.pureL ((xs.drop k).take n)=true:=by
 have hd:∀(k:Nat) (xs:zA),AV.pureL xs=true→AV.pureL (xs.drop k)=true:=by
  intro k
  induction k with
  |zero=>intro xs h;exact h
  |succ k ih=>intro xs h;cases xs with
   |nil=>rfl
   |cons x xs=>simp only[AV.pureL,Bool.and_eq_true]at h;exact ih xs h.2
 have ht:∀(n:Nat) (xs:zA),AV.pureL xs=true→AV.pureL (xs.take n)=true:=by
  intro n
  induction n with
  |zero=>intro xs _;rfl
  |succ n ih=>intro xs h;cases xs with
   |nil=>rfl
   |cons x xs=>simp only[AV.pureL,Bool.and_eq_true]at h;simp only[List.take_succ_cons,AV.pureL,Bool.and_eq_true];exact⟨h.1,ih xs h.2⟩
 intro xs h k n
 exact ht n _ (hd k _ h)
theorem ZrA{r:Row}{ad:Addr}{sz k:Nat}{cs:List Value}(hb:ad.block<w.heap.size)(hok:Zaz C h L ad.block)(hsz:∀x∈r.elems,x.flat.length=sz)(h1:∀v∈cs,v.oneCell'=true)
 (hc:∀(j:Nat) (v:Value),cs[j]? =some v→w.cell? (ad.add j)=some v) (hp:AV.pureL (Zai r.elems)=true) (hr:RelL w (Zaz C h L) h L (Zai r.elems) cs) (hk:k<r.elems.length) (hpos:0<sz):
 ZaH C h L w (.eptr (r.get std k) 0) (.pointer (some (ad.add (k*sz)))):=by
 have hget:=Row.get_std hk
 have hul:=hsz _ (List.mem_of_getElem? hget)
 have hfa:=Zax hsz
 have hge:k*sz+sz≤r.elems.length*sz:=by
  have:=Nat.mul_le_mul_right sz (Nat.succ_le_of_lt hk)
  rwa[Nat.succ_mul]at this
 have hl6:=hr.1
 have hsub:(r.get std k).flat=((Zai r.elems).drop (k*sz)).take sz:=by
  apply List.ext_getElem?
  intro j
  rw[List.getElem?_take]
  split
  ·rename_i hj;rw[List.getElem?_drop,ZeJ hsz hget j hj]
  ·exact List.getElem?_eq_none (by omega)
 have hsp:(ad.add (k*sz)).spot=none:=by
  have hj:cs[k*sz]? =some (cs[k*sz]'(by omega)):=List.getElem?_eq_getElem (by omega)
  exact ZmT (hc _ _ hj)
 have hzero:(ad.add (k*sz))=(ad.add (k*sz)).add 0:=by simp[Addr.add]
 rw[hzero]
 have hpart:=hr.part (k*sz) sz
 rw[←hsub]at hpart
 refine .eptr _ 0 _ ((cs.drop (k*sz)).take sz) hsp (by rw[Zdg];exact hb) (by rw[Zdg];exact hok) hpart.1.symm (fun v hv=>h1 v (List.mem_of_mem_drop (List.mem_of_mem_take hv))) (fun j v hj=>?_) (by rw[hsub];exact Zg4 hp _ _) hpart.2
 rw[List.getElem?_take]at hj
 split at hj
 ·rw[List.getElem?_drop]at hj
  rw[Zgh];exact hc _ v hj
 ·cases hj
theorem Zqi{h:Zad}{sz:Nat}{x i v:AV}(hv:Zd7 std h sz x i=some (true,v)):ZbS std h sz x i=some (true,v):=by
 unfold Zd7 at hv
 split at hv
 ·rename_i a j
  split at hv
  ·rename_i k n
   split at hv
   ·rename_i m
    split at hv
    ·rename_i e sz' r hb
     simp only[zS,zP,std_and]at hv
     obtain⟨⟨h1,h2⟩,rfl⟩:=hv
     simp only[ZbS,hb,zS,zP,std_and]
     refine⟨⟨h1,by simp[std],?_⟩,by simp[std]⟩
     simpa[std]using h2
    ·cases hv
   ·exact hv
  ·exact hv
 ·rename_i r
  split at hv
  ·rename_i k n
   split at hv
   ·rename_i m
    simp only[zS,zP,std_and]at hv
    obtain⟨⟨h1,h2⟩,rfl⟩:=hv
    have e:std.nat (Int.ofNat m)=m:=by simp[std]
    simp only[ZbS,e,zS,zP,std_and]
    exact⟨⟨⟨by simp[std],h1⟩,h2⟩,by simp⟩
   ·exact hv
  ·exact hv
 ·exact hv
theorem Zh8(H:HRel C h L w){t e:TypeId}{i:TypeInfo}{sz:Nat}{x ix:AV}{x' ix':Operand}(ho:o.op=.indexAddr t x' ix')(rx:ZaH C h L w x (ev x'))(ri:ZaH C h L w ix (ev ix'))
 (ht:C.P.underlying t=some (.slice e)) (hi:C.P.info? e=some i) (hsz:i.size=sz) (hpos:0<sz) (hv:ZbS std h sz x ix=some (true,v)):Snd C h L w ev o h v:=by
 have run:∀(ad:Addr) (len cap:Nat) (k:IntKind) (n:Int),ev x'=.slice (some ad) len cap→ev ix'=.int k n→0≤n→n.toNat<len→
  (execOp ev o).run C.P w=.ok (.value (.pointer (some (ad.add (n.toNat*sz))))) w:=fun ad len cap k n e1 e2 h0 hlt=>by
  have hlt':n<(len:Int):=by omega
  simp[execOp,ho,Instr.indexAt,e1,e2,asIntOf,Zay ht,h0,hlt',ZbB hi,hsz]
 unfold ZbS at hv
 split at hv
 ·rename_i kd n
  have hix:=Zbm ri
  split at hv
  ·rename_i r
   simp only[zS,zP,std_and]at hv
   obtain⟨⟨⟨h0,hlt⟩,hfl⟩,rfl⟩:=hv
   have h0:0≤n:=by simpa[std]using h0
   have hlt:n.toNat<r.elems.length:=by rw[Row.len_std]at hlt;simpa[std]using hlt
   have hfl:(r.get std n.toNat).flat.length=sz:=by rw[Zbc]at hfl;simpa[std]using hfl
   obtain⟨ad,nn,cap,sz',cs,hxv,hb,hok,hnn,hcap,hszs,h1,hc,hp,hr⟩:=Zlh rx (by intro e';rw[e']at hlt;simp at hlt)
   have hss:sz'=sz:=by rw[←hszs _ (List.mem_of_getElem? (Row.get_std hlt))];exact hfl
   subst hss
   exact .pure H (run ad nn cap kd n hxv hix h0 (by omega)) (ZrA hb hok hszs h1 hc hp hr hlt hpos)
  ·rename_i a j
   split at hv
   ·rename_i e' sz' r hbk
    simp only[zS,zP,std_and]at hv
    obtain⟨⟨h2,h0,hlt⟩,rfl⟩:=hv
    have h0:0≤n:=by simpa[std]using h0
    have h2:sz'=sz:=by simpa[std]using h2
    have hlt:n.toNat<r.elems.length:=by rw[Row.len_std]at hlt;simpa[std]using hlt
    subst h2
    have htg:=H.tagAt hbk
    generalize hxv:ev x'=xv at rx
    cases rx with
    |row _ _ ad nn c hn hl=>
     obtain⟨had,rfl,rfl⟩:=hl.2 _ htg
     have e:=had (by simp only at hn;omega)
     subst e
     refine .pure H (run _ _ _ kd n hxv hix h0 hlt) ?_
     rw[Zbn]
     exact .ptr _ _ _ _ _ _ ⟨hl.1,fun sz hsz=>by rw[htg]at hsz;cases hsz;exact⟨rfl,by simp[std]⟩⟩
   ·cases hv
  ·rename_i a j k m cp
   split at hv
   ·rename_i e' sz' r hbk
    simp only[zS,zP,std_and]at hv
    obtain⟨⟨h2,h0,hlt⟩,rfl⟩:=hv
    have h0:0≤n:=by simpa[std]using h0
    have h2:sz'=sz:=by simpa[std]using h2
    have hlt:n.toNat<m:=by simpa[std]using hlt
    subst h2
    have htg:=H.tagAt hbk
    generalize hxv:ev x'=xv at rx
    cases rx with
    |slc _ _ _ _ _ ad c hn hl=>
     rcases hl.2 _ htg with⟨_,rfl,_⟩ |⟨_,rfl⟩ |⟨e,_⟩
     ·omega
     ·omega
     ·subst e
      refine .pure H (run _ _ _ kd n hxv hix h0 hlt) ?_
      rw[Zbn]
      exact .ptr _ _ _ _ _ _ ⟨hl.1,fun sz hsz=>by rw[htg]at hsz;cases hsz;exact⟨rfl,by simp[std,Nat.add_mul]⟩⟩
   ·cases hv
  ·rename_i a j k off m
   split at hv
   ·rename_i e' sz' r hbk
    simp only[zS,zP,std_and]at hv
    obtain⟨⟨h2,h0,hlt⟩,rfl⟩:=hv
    have h0:0≤n:=by simpa[std]using h0
    have h2:sz=1:=by simpa[std]using h2
    have hlt:n.toNat<m:=by simpa[std]using hlt
    subst h2
    have htg:=H.tagAt hbk
    generalize hxv:ev x'=xv at rx
    cases rx with
    |aslc _ _ _ _ _ g oo c hn hl=>
     rcases hl.2 _ htg with rfl |⟨rfl,rfl⟩
     ·omega
     ·refine .pure H (run _ _ _ kd n hxv hix h0 hlt) ?_
      rw[Zbn]
      exact .ptr _ _ _ _ _ _ ⟨hl.1,fun sz hsz=>by rw[htg]at hsz;cases hsz;exact⟨rfl,by simp[std,Nat.add_assoc]⟩⟩
   ·cases hv
  ·cases hv
 ·cases hv
theorem Zie(H:HRel C h L w){t e:TypeId}{i:TypeInfo}{ln sz:Nat}{x ix:AV}{x' ix':Operand}(ho:o.op=.indexAddr t x' ix')(rx:ZaH C h L w x (ev x'))(ri:ZaH C h L w ix (ev ix'))
 (ht:C.P.underlying t=some (.array ln e)) (hi:C.P.info? e=some i) (hsz:i.size=sz) (hv:Zl4 std ln sz x ix=some (true,v)):Snd C h L w ev o h v:=by
 have run:∀(ad:Addr) (k:IntKind) (n:Int),ev x'=.pointer (some ad)→ev ix'=.int k n→0≤n→n<ln→
  (execOp ev o).run C.P w=.ok (.value (.pointer (some (ad.add (n.toNat*sz))))) w:=fun ad k n e1 e2 h0 hlt=>by
  simp[execOp,ho,Instr.indexAt,e1,e2,asIntOf,Zay ht,Instr.sureAddr,h0,hlt,ZbB hi,hsz]
 have hmul:∀n:Int,Zfz std sz n=n.toNat*sz:=fun n=>by
  unfold Zfz
  split
  ·rename_i hb;have:sz=1:=by simpa using hb
   subst this;simp[std]
  ·rfl
 unfold Zl4 at hv
 split at hv
 ·rename_i kd n
  have hix:=Zbm ri
  generalize hxv:ev x'=xv at rx
  split at hv
  ·rename_i a j k off
   simp only[zS,zP,std_and]at hv
   obtain⟨⟨h0,hlt⟩,rfl⟩:=hv
   have h0:0≤n:=by simpa[std]using h0
   have hlt:n<(ln:Int):=by simpa[std]using hlt
   cases rx with
   |ptr _ _ _ _ g oo hl=>
    refine .pure H (run _ kd n hxv hix h0 hlt) ?_
    rw[Zbn,hmul]
    exact .ptr _ _ _ _ _ _ ⟨hl.1,fun sz hsz=>⟨(hl.2 sz hsz).1,by rw[(hl.2 sz hsz).2];omega⟩⟩
  ·rename_i u off
   simp only[zS,zP,std_and]at hv
   obtain⟨⟨h0,hlt⟩,rfl⟩:=hv
   have h0:0≤n:=by simpa[std]using h0
   have hlt:n<(ln:Int):=by simpa[std]using hlt
   obtain⟨ad,cs,rfl,hsp,hb,hok,hl,h1,hc,hp,hr⟩:=ZkU rx
   refine .pure H (run _ kd n hxv hix h0 hlt) ?_
   rw[Zgh,hmul]
   exact .eptr u _ ad cs hsp hb hok hl h1 hc hp hr.2
  ·cases hv
 ·cases hv
theorem ZhS{t:TypeId}{d:TypeDesc}{i:TypeInfo}{ag:Bool}{n off:Nat}{vs:Array Value}(hd:P.underlying t=some d)(hag:Zba d=ag)(hi:P.info? t=some i)
 (hn:i.size=n) (hne:ag=false→n=1) (hoff:off+n≤vs.size):(part t vs off).run P w=.ok (if ag then .agg ((vs.toList.drop off).take n).toArray else vs.toList.getD off undef) w:=by
 cases ag with
 |true=>
  have:vs.extract off (off+n)=((vs.toList.drop off).take n).toArray:=by apply Array.ext';simp[List.extract_eq_take_drop]
  simp[part,Zfn hd hag,ZbB hi,hn,this]
 |false=>
  have:=hne rfl
  have hv:vs[off]? =some (vs[off]'(by omega)):=Array.getElem?_eq_getElem (by omega)
  simp[part,Zfn hd hag,hv,List.getD_eq_getElem?_getD]
theorem ZqX(H:HRel C h L w){t:TypeId}{fs:Array Field}{f:Nat}{fd:Field}{d:TypeDesc}{i:TypeInfo}{ag:Bool}{off n:Nat}{r:Row}{x':Operand}(ho:o.op=.field t x' f)(rx:ZaH C h L w (.agg r) (ev x'))
 (ht:C.P.underlying t=some (.struct fs)) (hf:fs[f]? =some fd) (hoff:fd.offset=off) (hd:C.P.underlying fd.type=some d) (hag:Zba d=ag) (hi:C.P.info? fd.type=some i)
 (hn:i.size=n) (hne:ag=false→n=1) (hv:ZAb std ag n off (.agg r)=some (true,v)):Snd C h L w ev o h v:=by
 obtain⟨vs,hxv,hr,h1⟩:=ZiO rx
 obtain⟨c1,c2⟩:=ZnS (u:=.agg r) hr (by simpa using h1) hv hne
 have hp:=ZhS (P:=C.P) (w:=w) (vs:=vs) (off:=off) hd hag hi hn hne (by simpa using c1)
 refine .pure H ?_ c2
 simp only[execOp,ho,Instr.field,Sem.run_bind,Zay ht,Result.andThen_ok,hf,hxv,asAgg,Sem.run_pure,hoff,hp]
theorem ZlN(H:HRel C h L w){t e:TypeId}{d:TypeDesc}{i:TypeInfo}{ln:Nat}{r:Row}{kd:IntKind}{n:Int}{x' ix':Operand}(ho:o.op=.index t x' ix')(rx:ZaH C h L w (.agg r) (ev x'))(ri:ZaH C h L w (.int kd n) (ev ix'))
 (ht:C.P.underlying t=some (.array ln e)) (hd:C.P.underlying e=some d) (hag:Zba d=false) (hi:C.P.info? e=some i) (hn:i.size=1)
 (h0:0≤n) (hlt:n<(ln:Int)) (hl:n.toNat<r.elems.length):Snd C h L w ev o h (r.get std n.toNat):=by
 obtain⟨vs,hxv,hr,h1⟩:=ZiO rx
 have hlv:n.toNat<vs.toList.length:=by rw[←hr.1];exact hl
 have hp:=ZhS (P:=C.P) (w:=w) (vs:=vs) (off:=n.toNat) hd hag hi hn (fun _=>rfl) (by simp at hlv;omega)
 simp only[Bool.false_eq_true,if_false]at hp
 refine .pure H (r:=vs.toList.getD n.toNat undef) ?_ (hr.2 _ _ _ (Row.get_std hl) (by rw[List.getD_eq_getElem?_getD,List.getElem?_eq_getElem hlv];rfl))
 simp only[execOp,ho,Instr.index,Sem.run_bind,Zbm ri,asIntOf,Sem.run_pure,Result.andThen_ok,Zay ht,hxv,h0,hlt,and_self,if_true,ZbB hi,hn,Nat.mul_one,hp]
theorem ZpW(H:HRel C h L w){t:TypeId}{l:List UInt8}{kd:IntKind}{n:Int}{x' ix':Operand}(ho:o.op=.index t x' ix')(rx:ZaH C h L w (.str l) (ev x'))(ri:ZaH C h L w (.int kd n) (ev ix'))(ht:C.P.underlying t=some .string)
 (h0:0≤n) (hlt:n.toNat<l.length):Snd C h L w ev o h (.int .u8 (std.nthS l n.toNat)):=by
 refine .pure H (r:=.int .u8 (l.getD n.toNat 0).toNat) ?_ (.int _ _)
 have hb:(⟨l.toArray⟩:ByteArray)[n.toNat]? =some (l.getD n.toNat 0):=by
  have hsz:n.toNat<(⟨l.toArray⟩:ByteArray).size:=hlt
  rw[getElem?_pos (⟨l.toArray⟩:ByteArray) n.toNat hsz]
  simp[List.getD_eq_getElem?_getD,hlt]
  rfl
 simp only[execOp,ho,Instr.index,Sem.run_bind,Zbm ri,asIntOf,Sem.run_pure,Result.andThen_ok,Zay ht,Zl9 rx,h0,if_true,hb]
theorem ZsY(H:HRel C h L w){ix:Nat}{xs:zA}{x':Operand}(ho:o.op=.extract x' ix)(rx:ZaH C h L w (.tup xs) (ev x'))(hv:xs[ix]? =some v):Snd C h L w ev o h v:=by
 cases hxv:ev x'<;>rw[hxv]at rx<;>cases rx
 rename_i vs hl hr
 have hlt:ix<vs.size:=by rw[←hl];exact(List.getElem?_eq_some_iff.1 hv).1
 have hg:vs[ix]? =some vs[ix]:=Array.getElem?_eq_getElem hlt
 exact .pure H (r:=vs[ix]) (by simp[execOp,ho,Instr.extract,hxv,hg]) (hr ix v _ hv hg)
theorem Zju:∀ {xs:List Opd} {ys:List Operand},ZhE xs ys=true→xs.length=ys.length∧∀(j:Nat) (x:Opd) (y:Operand),xs[j]? =some x→ys[j]? =some y→Za6 x y=true
 |[],[],_=>⟨rfl,fun j x y h=>by simp at h⟩
 |x::xs,y::ys,h=>by
  simp only[ZhE,Bool.and_eq_true]at h
  obtain⟨h1,h2⟩:=Zju h.2
  refine⟨by simp[h1],fun j a b ha hb=>?_⟩
  cases j with
  |zero=>simp at ha hb;subst ha;subst hb;exact h.1
  |succ j=>exact h2 j a b (by simpa using ha) (by simpa using hb)
 |[],_::_,h=>by simp[ZhE]at h
 |_::_,[],h=>by simp[ZhE]at h
theorem ZcK(hρ:Rho C h L w ρ ev){xs:List Opd}{ys:Array Operand}(hm:ZhE xs ys.toList=true):RelL w (Zaz C h L) h L (xs.map ρ) (ys.map ev).toList:=by
 obtain⟨hl,hm⟩:=Zju hm
 refine⟨by simpa using hl,fun j u v hu hv=>?_⟩
 rw[List.getElem?_map]at hu
 cases hx:xs[j]? with
 |none=>simp[hx]at hu
 |some x=>
  cases hy:ys[j]? with
  |none=>simp[hy]at hv
  |some y=>
   simp[hx]at hu;simp[hy]at hv
   subst hu;subst hv
   exact hρ.rel x y (hm j x y hx (by simpa using hy))
theorem ZqG(H:HRel C h L w)(hρ:Rho C h L w ρ ev){f:FuncId}{xs:List Opd}{ys:Array Operand}(ho:o.op=.makeFunc (.func f) #[] ys)(hm:ZhE xs ys.toList=true):Snd C h L w ev o h (.fn f (xs.map ρ)):=by
 have hr:=ZcK hρ hm
 refine .pure H (r:=.func (.func f) #[] (ys.map ev)) (by simp[execOp,ho,Instr.makeFunc]) ?_
 exact .fn f _ _ (by simpa using hr.1) (fun j u v hu hv=>hr.2 j u v hu (by simpa using hv))
theorem Zb9(hρ:Rho C h L w ρ ev){x:Option Opd}{y:Option Operand}(hm:ZiE x y=true){d n:Nat}{b:Bool}(hv:ZfG std ρ d x=some (b,n))(hb:b=true):(y=none∧n=d)∨∃z k,y=some z∧ev z=.int k (n:Int):=by
 cases x with
 |none=>
  cases y with
  |none=>simp only[ZfG,zS,zP]at hv;exact .inl ⟨rfl,hv.2.symm⟩
  |some y=>simp[ZiE]at hm
 |some x=>
  cases y with
  |none=>simp[ZiE]at hm
  |some y=>
   have r:=hρ.rel x y hm
   simp only[ZfG]at hv
   split at hv
   ·rename_i k n' hq
    rw[hq]at r
    simp only[zS,zP]at hv
    obtain⟨h1,h2⟩:=hv
    rw[hb]at h1
    have h1:0≤n':=by simpa[std]using h1
    have h2:n'.toNat=n:=h2
    exact .inr ⟨y,k,rfl,by rw[Zbm r];congr 1;omega⟩
   ·cases hv
theorem Zet{b:Bool}{ln cap m:Nat}{lo hi mx:Option Operand}{l hh:Nat}(hl:(lo=none∧l=0)∨∃z k,lo=some z∧ev z=.int k (l:Int))(hhi:(hi=none∧hh=ln)∨∃z k,hi=some z∧ev z=.int k (hh:Int))
 (hmx:(mx=none∧m=cap)∨∃z k,mx=some z∧ev z=.int k (m:Int)) (hmh:mx.isNone∨hi.isSome) (h1:l≤hh) (h2:hh≤m) (h3:m≤cap):(Instr.sliceBounds b ln cap (lo.map ev) (hi.map ev) (mx.map ev)).run P w=.ok (l,hh,m) w:=by
 have hb:∀(v:Operand) (k:IntKind) (n y:Nat) (code:BoundsCode),ev v=.int k (n:Int)→n≤y→(Instr.sliceBound (ev v) y code).run P w=.ok n w:=fun v k n y code e1 e3=>by
  have:(n:Int)≤y:=by omega
  simp[Instr.sliceBound,e1,asIntOf,this]
 rcases hl with⟨rfl,rfl⟩ |⟨z,k,rfl,ez⟩<;>rcases hhi with⟨rfl,rfl⟩ |⟨z',k',rfl,ez'⟩<;>rcases hmx with⟨rfl,rfl⟩ |⟨z2,k2,rfl,ez2⟩
 ·simp[Instr.sliceBounds]
 ·simp at hmh
 ·simp[Instr.sliceBounds,hb z' k' hh _ _ ez' h2]
 ·simp[Instr.sliceBounds,hb z2 k2 m cap _ ez2 h3,hb z' k' hh m _ ez' h2]
 ·simp[Instr.sliceBounds,hb z k l hh _ ez h1]
 ·simp at hmh
 ·simp[Instr.sliceBounds,hb z' k' hh _ _ ez' h2,hb z k l hh _ ez h1]
 ·simp[Instr.sliceBounds,hb z2 k2 m cap _ ez2 h3,hb z' k' hh m _ ez' h2,hb z k l hh _ ez h1]
theorem Ztb(H:HRel C h L w)(hρ:Rho C h L w ρ ev){t e:TypeId}{i:TypeInfo}{sz:Nat}{x:AV}{x':Operand}{lo hi mx:Option Opd}{lo' hi' mx':Option Operand}(ho:o.op=.slice t x' lo' hi' mx')(rx:ZaH C h L w x (ev x'))
 (hlo:ZiE lo lo'=true) (hhi:ZiE hi hi'=true) (hmx:ZiE mx mx'=true) (hmh:mx.isNone=true∨hi.isSome=true) (ht:C.P.underlying t=some (.slice e)) (hinf:C.P.info? e=some i) (hsz:i.size=sz) (hpos:0<sz)
 (hv:Zxm std ρ h sz x lo hi mx=some (true,v)):Snd C h L w ev o h v:=by
 have hmh':mx'.isNone=true∨hi'.isSome=true:=by
  cases mx<;>cases mx'<;>cases hi<;>cases hi'<;>simp_all[ZiE]
 -- the run
 have run:∀(adr:Option Addr) (n cap l m q:Nat),ev x'=.slice adr n cap→((lo'=none∧l=0)∨∃z k,lo'=some z∧ev z=.int k (l:Int))→((hi'=none∧m=n)∨∃z k,hi'=some z∧ev z=.int k (m:Int))→
  ((mx'=none∧q=cap)∨∃z k,mx'=some z∧ev z=.int k (q:Int))→l≤m→m≤q→q≤cap→
  (execOp ev o).run C.P w=.ok (.value (.slice (if q=l then adr else adr.map (·.add (l*sz))) (m-l) (q-l))) w:=fun adr n cap l m q e1 e2 e3 e4 e5 e6 e7=>by
  have hbd:=Zet (P:=C.P) (w:=w) (ev:=ev) (b:=true) (ln:=n) (cap:=cap) e2 e3 e4 hmh' e5 e6 e7
  simp only[execOp,ho,Instr.sliceAt,Instr.slice,Sem.run_bind,Zay ht,Result.andThen_ok,e1,hsz,ZbB hinf]
  rw[hbd]
  simp
 unfold Zxm at hv
 split at hv
 ·cases hv
 ·rename_i b1 l hl0
  -- the general step
  have keyX:∀(n p:Nat) (f:Nat→Out),goX std ρ hi b1 l n p f=some (true,v)→∃m,f m=some (true,v)∧l≤m∧m≤p∧((lo'=none∧l=0)∨∃z k,lo'=some z∧ev z=.int k (l:Int))∧((hi'=none∧m=n)∨∃z k,hi'=some z∧ev z=.int k (m:Int))∧(lo=none→l=0)∧(hi=none→m=n):=by
   intro n p f hf
   unfold goX at hf
   split at hf
   ·cases hf
   ·rename_i b2 m hm0
    split at hf
    ·rename_i b3 v' hfm
     simp only[zS,zP,std_and]at hf
     obtain⟨⟨⟨rfl,rfl⟩,⟨h1,h2⟩,rfl⟩,rfl⟩:=hf
     refine⟨m,hfm,by simpa[std]using h1,by simpa[std]using h2,Zb9 hρ hlo hl0 rfl,Zb9 hρ hhi hm0 rfl,fun e=>?_,fun e=>?_⟩
     ·subst e;simp only[ZfG,zS,zP]at hl0;exact hl0.2.symm
     ·subst e;simp only[ZfG,zS,zP]at hm0;exact hm0.2.symm
    ·cases hf
  have key:∀(n:Nat) (f:Nat→Out),goR std ρ hi b1 l n f=some (true,v)→∃m,f m=some (true,v)∧l≤m∧m≤n∧((lo'=none∧l=0)∨∃z k,lo'=some z∧ev z=.int k (l:Int))∧((hi'=none∧m=n)∨∃z k,hi'=some z∧ev z=.int k (m:Int))∧(lo=none→l=0)∧(hi=none→m=n):=fun n f hf=>keyX n n f hf
  have capk:∀(n m:Nat) (c:Option Nat) (b:Bool) (c':Option Nat),Ztv std ρ mx l n m c=some (b,c')→b=true→
   (mx'=none∧c'=c.map (· -l))∨∃z k q,mx'=some z∧ev z=.int k ((q:Nat):Int)∧m≤q∧q≤n∧c'=some (q-l):=by
   intro n m c b c' hc hb
   unfold Ztv at hc
   cases mx with
   |none=>
    cases mx' with
    |some y=>simp[ZiE]at hmx
    |none=>
     left
     cases c<;>simp only[zS,zP]at hc<;>exact⟨rfl,by rw[←hc.2];rfl⟩
   |some y=>
    cases mx' with
    |none=>simp[ZiE]at hmx
    |some z=>
     right
     have r:=hρ.rel y z hmx
     dsimp only at hc
     split at hc
     ·rename_i k q hq
      rw[hq]at r
      simp only[zS,zP]at hc
      obtain⟨hc1,rfl⟩:=hc
      rw[hb]at hc1
      simp only[std_and]at hc1
      have g0:0≤q:=by simpa[std]using hc1.1
      have g1:m≤q.toNat:=by simpa[std]using hc1.2.1
      have g2:q.toNat≤n:=by simpa[std]using hc1.2.2
      exact⟨z,k,q.toNat,rfl,by rw[Zbm r];congr 1;omega,g1,g2,rfl⟩
     ·cases hc
  generalize hxv:ev x'=xv at rx
  unfold Zum at hv
  split at hv
  ·rename_i r
   obtain⟨m,hf,c1,c2,c3,c4,_,_⟩:=key _ _ hv
   split at hf
   ·rename_i b c' hcap
    simp only[zS,zP,std_and]at hf
    obtain⟨⟨hun,rfl⟩,rfl⟩:=hf
    have hcc:=capk _ _ _ _ _ hcap rfl
    rw[Row.len_std]at c2 c4
    obtain⟨adr,n,cap,hxe,hn,hnc⟩:∃adr n cap,xv=.slice adr n cap∧n=r.elems.length∧n≤cap:=by
     cases rx with
     |nil _ a c he=>exact⟨a,0,c,rfl,by rw[he];rfl,Nat.zero_le _⟩
     |list _ xs hx ad n cap sz cs hb hok hn hcap hsz hl h1 hc hp hr=>subst hx;exact⟨some ad,n,cap,rfl,hn,hcap⟩
    subst hn
    obtain⟨q,hq,hmq,hqc⟩:∃q:Nat,((mx'=none∧q=cap)∨∃z k,mx'=some z∧ev z=.int k (q:Int))∧m≤q∧q≤cap:=by
     rcases hcc with⟨e1,_⟩ |⟨z,k,q,e1,e2,e3,e4,_⟩
     ·exact⟨cap, .inl ⟨e1,rfl⟩,by omega,Nat.le_refl _⟩
     ·rw[Row.len_std]at e4;exact⟨q, .inr ⟨z,k,e1,e2⟩,e3,by omega⟩
    refine .pure H (run adr _ cap l m q (by rw[hxv,hxe]) c3 c4 hq c1 hmq hqc) ?_
    have hel:(r.sub std l (m-l)).elems=sub3 r.elems l (m-l):=Row.sub_std _ _ _
    have hlen:(r.sub std l (m-l)).elems.length=m-l:=by rw[hel];simp[sub3];omega
    show ZaH C h L w (.list (r.sub std l (m-l))) _
    by_cases hz:m-l=0
    ·rw[hz]
     rw[hz]at hlen
     exact .nil _ _ _ (List.eq_nil_of_length_eq_zero hlen)
    ·have hne:r.elems≠[]:=by intro e';rw[e']at c2;simp at c2;omega
     obtain⟨ad,n',cap',sz',cs,hv',hb,hok,hn',hcap',hszs,h1,hc,hp,hr⟩:=Zlh rx hne
     rw[hxe]at hv'
     cases hv'
     have hss:sz'=sz:=by
      have hlt:0<r.elems.length:=List.length_pos_iff.2 hne
      have hg:=Row.get_std hlt
      rw[←hszs _ (List.mem_of_getElem? hg),←Zbc]
      unfold Row.unit at hun
      split at hun
      ·exact absurd rfl hne
      ·simpa[std]using hun
     subst hss
     rw[if_neg (by omega)]
     simp only[Option.map_some]
     have hfl:Zai (r.sub std l (m-l)).elems=((Zai r.elems).drop (l*sz')).take ((m-l)*sz'):=by
      rw[hel];unfold sub3
      rw[Za8 _ _ (fun y hy=>hszs y (List.mem_of_mem_drop hy)),Zbh _ _ hszs]
     have hpart:=hr.part (l*sz') ((m-l)*sz')
     rw[←hfl]at hpart
     refine .list _ _ rfl (ad.add (l*sz')) _ _ sz' ((cs.drop (l*sz')).take ((m-l)*sz')) (by rw[Zdg];exact hb) (by rw[Zdg];exact hok) hlen.symm (by omega)
      (fun x hx=>by rw[hel]at hx;exact hszs x (List.mem_of_mem_drop (List.mem_of_mem_take hx))) hpart.1.symm (fun v hv=>h1 v (List.mem_of_mem_drop (List.mem_of_mem_take hv))) (fun j v hj=>?_) (by rw[hfl];exact Zg4 hp _ _) hpart.2
     rw[List.getElem?_take]at hj
     split at hj
     ·rw[List.getElem?_drop]at hj
      rw[Zgh];exact hc _ v hj
     ·cases hj
   ·cases hf
  ·obtain⟨m,hf,c1,c2,c3,c4,_,_⟩:=key _ _ hv
   split at hf
   ·rename_i b c' hcap
    simp only[zS,zP]at hf
    obtain⟨rfl,rfl⟩:=hf
    have hcc:=capk _ _ _ _ _ hcap rfl
    have hm0:m=0:=by omega
    have hl0:l=0:=by omega
    subst hm0;subst hl0
    cases rx
    obtain⟨q,hq,hqc⟩:∃q:Nat,((mx'=none∧q=0)∨∃z k,mx'=some z∧ev z=.int k (q:Int))∧q≤0:=by
     rcases hcc with⟨e1,_⟩ |⟨z,k,q,e1,e2,e3,e4,_⟩
     ·exact⟨0, .inl ⟨e1,rfl⟩,Nat.le_refl _⟩
     ·exact⟨q, .inr ⟨z,k,e1,e2⟩,e4⟩
    have hq0:q=0:=by omega
    subst hq0
    exact .pure H (run none 0 0 0 0 0 hxv c3 c4 hq (Nat.le_refl _) (Nat.le_refl _) (Nat.le_refl _)) .nils
   ·cases hf
  ·rename_i a j
   split at hv
   ·rename_i e' sz' r hbk
    obtain⟨m,hf,c1,c2,c3,c4,c5,c6⟩:=key _ _ hv
    rw[Row.len_std]at c2 c4 c6
    obtain⟨htg,g0,g1,g2,g3⟩:=H.rowAt hbk
    split at hf
    ·rename_i b c' hcap
     cases rx with
     |row _ _ ad n c hn hl=>
      obtain⟨had,rfl,rfl⟩:=hl.2 _ htg
      dsimp only at hxv hn had
      split at hf
      ·rename_i hall
       cases hf
       obtain⟨rfl,rfl,rfl⟩:lo=none∧hi=none∧mx=none:=by
        unfold ZLb at hall
        split at hall
        ·exact⟨rfl,rfl,rfl⟩
        ·cases hall
       have hl0:=c5 rfl
       have hm0:=c6 rfl
       subst hl0;subst hm0
       have hmx':mx'=none:=by cases mx' with |none=>rfl |some y=>simp[ZiE]at hmx
       have:=run _ _ _ 0 _ (L.size a j) hxv c3 c4 (.inl ⟨hmx',rfl⟩) (Nat.zero_le _) g2 (Nat.le_refl _)
       refine .pure H this ?_
       have hadd:(if L.size a j=0 then ad else Option.map (fun b:Addr=>b.add (0*sz)) ad)=ad:=by split;rfl;cases ad<;>simp[Addr.add]
       rw[hadd]
       exact .row _ _ _ _ _ (by omega) ⟨hl.1,fun s hs=>by rw[htg]at hs;cases hs;exact⟨fun h=>had (by simpa using h),by simp,by simp⟩⟩
      ·simp only[zS,zP,std_and]at hf
       obtain⟨⟨hss,rfl⟩,rfl⟩:=hf
       have hss:sz'=sz:=by simpa[std]using hss
       subst hss
       have hcc:=capk _ _ _ _ _ hcap rfl
       obtain⟨q,hq,hmq,hqc,hc'⟩:∃q:Nat,((mx'=none∧q=L.size a j)∨∃z k,mx'=some z∧ev z=.int k (q:Int))∧m≤q∧q≤L.size a j∧q-l=c'.getD (L.size a j-l):=by
        rcases hcc with⟨e1,e2⟩ |⟨z,k,q,e1,e2,e3,e4,e5⟩
        ·exact⟨L.size a j, .inl ⟨e1,rfl⟩,by omega,Nat.le_refl _,by rw[e2];rfl⟩
        ·rw[Row.len_std]at e4;exact⟨q, .inr ⟨z,k,e1,e2⟩,e3,by omega,by rw[e5];rfl⟩
       refine .pure H (run _ _ _ l m q hxv c3 c4 hq c1 hmq hqc) ?_
       by_cases hs0:L.size a j=0
       ·exact .slc _ _ _ _ _ _ _ (by show m-l≤_;omega) ⟨hl.1,fun s hs=>.inr (.inl ⟨hs0,by omega⟩)⟩
       have had:=had hs0
       subst had
       split
       ·rename_i hql
        have hml:m-l=0:=by omega
        refine .slc _ _ _ _ _ _ _ (by show m-l≤_;omega) ⟨hl.1,fun s hs=>?_⟩
        rw[htg]at hs;cases hs
        by_cases hl0:l=0
        ·refine .inr (.inr ⟨by simp[hl0],by omega,hc'⟩)
        ·exact .inl ⟨hl0,hml,_,_,rfl⟩
       ·simp only[Option.map_some,Zbn,Nat.zero_add]
        refine .slc _ _ _ _ _ _ _ (by show m-l≤q-l;omega) ⟨hl.1,fun s hs=>?_⟩
        rw[htg]at hs;cases hs
        exact .inr (.inr ⟨rfl,by omega,hc'⟩)
    ·cases hf
   ·cases hv
  ·rename_i a j k n c
   split at hv
   ·rename_i e' sz' r hbk
    obtain⟨m,hf,c1,c2,c3,c4,c5,c6⟩:=keyX _ _ _ hv
    obtain⟨htg,g0,g1,g2,g3⟩:=H.rowAt hbk
    split at hf
    ·rename_i b c' hcap
     simp only[zS,zP,std_and]at hf
     obtain⟨⟨hss,rfl⟩,rfl⟩:=hf
     have hss:sz'=sz:=by simpa[std]using hss
     subst hss
     have hcc:=capk _ _ _ _ _ hcap rfl
     cases rx with
     |slc _ _ _ _ _ ad cp hn hl=>
      have hlim:mx=none→m≤cp:=fun _=>by
       rcases Zgu k c lo hi mx n (r.len std)with e |⟨e1,e2,_,e4⟩
       ·rw[e]at c2;omega
       ·rw[e4,Row.len_std]at c2
        rcases hl.2 _ htg with⟨hk,_⟩ |⟨e6,e7⟩ |⟨_,_,e5⟩
        ·exact absurd e1 hk
        ·omega
        ·rw[e2]at e5;simp at e5;clear e4;omega
      have hk0:k≠0→m≤n:=fun hk=>by
       rcases Zgu k c lo hi mx n (r.len std)with e |⟨e1,_⟩
       ·rw[e]at c2;exact c2
       ·exact absurd e1 hk
      have c2:mx=none∨m≤n:=by
       rcases Zgu k c lo hi mx n (r.len std)with e |⟨e1,e2,e3,e4⟩
       ·rw[e]at c2;exact .inr c2
       ·exact .inl e3
      obtain⟨q,hq,hmq,hqc,hc'⟩:∃q:Nat,((mx'=none∧q=cp)∨∃z k,mx'=some z∧ev z=.int k (q:Int))∧m≤q∧q≤cp∧((mx'=none∧q=cp∧c'=c.map (· -l))∨c'=some (q-l)):=by
       rcases hcc with⟨e1,e2⟩ |⟨z,k,q,e1,e2,e3,e4,e5⟩
       ·exact⟨cp, .inl ⟨e1,rfl⟩,by rcases c2 with e |e;exact hlim e;omega,Nat.le_refl _, .inl ⟨e1,rfl,e2⟩⟩
       ·exact⟨q, .inr ⟨z,k,e1,e2⟩,e3,by omega, .inr e5⟩
      refine .pure H (run _ _ _ l m q hxv c3 c4 hq c1 hmq hqc) ?_
      have hcap':∀S,k+cp≤S→cp=c.getD (S-k)→q-l=c'.getD (S-(k+l)):=fun S hS hcp=>by
       rcases hc' with⟨_,e1,e2⟩ |e2
       ·rw[e2,e1]
        cases c with
        |none=>simp at hcp ⊢;omega
        |some c0=>simp at hcp ⊢;omega
       ·rw[e2];rfl
      rcases hl.2 _ htg with⟨hk,hn0,g9,o9,rfl⟩ |⟨hs0,rfl⟩ |⟨rfl,e3,e4⟩
      ·refine .slc _ _ _ _ _ _ _ (by show m-l≤_;omega) ⟨hl.1,fun s hs=>.inl ⟨by show k+l≠0;omega,by have:=hk0 hk;show m-l=0;omega,?_⟩⟩
       split
       ·exact⟨_,_,rfl⟩
       ·simp only[Option.map_some,Zbn];exact⟨_,_,rfl⟩
      ·exact .slc _ _ _ _ _ _ _ (by show m-l≤_;omega) ⟨hl.1,fun s hs=>.inr (.inl ⟨hs0,by omega⟩)⟩
      split
      ·rename_i hql
       have hml:m-l=0:=by omega
       refine .slc _ _ _ _ _ _ _ (by show m-l≤_;omega) ⟨hl.1,fun s hs=>?_⟩
       rw[htg]at hs;cases hs
       by_cases hkl:k+l=0
       ·obtain⟨rfl,rfl⟩:k=0∧l=0:=by omega
        exact .inr (.inr ⟨by simp,by show 0+0+(q-0)≤_;omega,hcap' _ e3 e4⟩)
       ·exact .inl ⟨hkl,hml,_,_,rfl⟩
      ·simp only[Option.map_some,Zbn]
       refine .slc _ _ _ _ _ _ _ (by show m-l≤q-l;omega) ⟨hl.1,fun s hs=>?_⟩
       rw[htg]at hs;cases hs
       exact .inr (.inr ⟨by simp only[Nat.add_mul],by show k+l+(q-l)≤_;omega,hcap' _ e3 e4⟩)
    ·cases hf
   ·cases hv
  ·rename_i a j k off n
   obtain⟨m,hf,c1,c2,c3,c4,c5,c6⟩:=key _ _ hv
   split at hf
   ·rename_i b c' hcap
    simp only[zS,zP,std_and]at hf
    obtain⟨⟨hss,rfl⟩,rfl⟩:=hf
    have hss:sz=1:=by simpa[std]using hss
    subst hss
    have hcc:=capk _ _ _ _ _ hcap rfl
    cases rx with
    |aslc _ _ _ _ _ g oo cp hn hl=>
     obtain⟨q,hq,hmq,hqc⟩:∃q:Nat,((mx'=none∧q=cp)∨∃z k,mx'=some z∧ev z=.int k (q:Int))∧m≤q∧q≤cp:=by
      rcases hcc with⟨e1,e2⟩ |⟨z,k,q,e1,e2,e3,e4,e5⟩
      ·exact⟨cp, .inl ⟨e1,rfl⟩,by omega,Nat.le_refl _⟩
      ·exact⟨q, .inr ⟨z,k,e1,e2⟩,e3,by omega⟩
     refine .pure H (run _ _ _ l m q hxv c3 c4 hq c1 hmq hqc) ?_
     split
     ·rename_i hql
      exact .aslc _ _ _ _ _ _ _ _ (by show m-l≤q-l;omega) ⟨hl.1,fun s hs=>.inl (by show m-l=0;omega)⟩
     ·simp only[Option.map_some,Zbn]
      refine .aslc _ _ _ _ _ _ _ _ (by show m-l≤q-l;omega) ⟨hl.1,fun s hs=>?_⟩
      rcases hl.2 _ hs with hn0 |⟨e1,e2⟩
      ·exact .inl (by show m-l=0;omega)
      ·exact .inr ⟨e1,by simp only[e2,Nat.mul_one];omega⟩
   ·cases hf
  ·cases hv
theorem ZqY(H:HRel C h L w)(hρ:Rho C h L w ρ ev){t arr e:TypeId}{i:TypeInfo}{ln:Nat}{p:AV}{p':Operand}{lo hi:Option Opd}{lo' hi':Option Operand}(ho:o.op=.slice t p' lo' hi' none)(rp:ZaH C h L w p (ev p'))
 (hlo:ZiE lo lo'=true) (hhi:ZiE hi hi'=true) (ht:C.P.underlying t=some (.pointer arr)) (ha:C.P.underlying arr=some (.array ln e)) (hinf:C.P.info? e=some i) (hsz:i.size=1)
 (hv:ZBJ std ρ ln p lo hi=some (true,v)):Snd C h L w ev o h v:=by
 unfold ZBJ at hv
 split at hv
 ·rename_i b1 l b2 m hl0 hm0
  generalize hxv:ev p'=pv at rp
  split at hv
  ·rename_i a j k off
   simp only[zS,zP,std_and]at hv
   obtain⟨⟨⟨rfl,rfl⟩,c1,c2⟩,rfl⟩:=hv
   have c1:l≤m:=by simpa[std]using c1
   have c2:m≤ln:=by simpa[std]using c2
   have e2:=Zb9 hρ hlo hl0 rfl
   have e3:=Zb9 hρ hhi hm0 rfl
   have hbd:=Zet (P:=C.P) (w:=w) (ev:=ev) (b:=false) (ln:=ln) (cap:=ln) (mx:=none) e2 e3 (.inl ⟨rfl,rfl⟩) (.inl rfl) c1 c2 (Nat.le_refl _)
   cases rp with
   |ptr _ _ _ _ g oo hl=>
    refine .pure H (r:=.slice (some (if ln=l then⟨g,oo,none⟩else(⟨g,oo,none⟩:Addr).add (l*1))) (m-l) (ln-l)) ?_ ?_
    ·simp only[Option.map_none]at hbd
     simp only[execOp,ho,Instr.sliceAt,Instr.slice,Sem.run_bind,Zay ht,Zay ha,Result.andThen_ok,hxv,asAddr,Sem.run_pure,ZbB hinf,hsz,Option.map_none]
     rw[hbd]
     simp
    ·split
     ·exact .aslc _ _ _ _ _ _ _ _ (by show m-l≤ln-l;omega) ⟨hl.1,fun s hs=>.inl (by show m-l=0;omega)⟩
     ·rw[Zbn]
      exact .aslc _ _ _ _ _ _ _ _ (by show m-l≤ln-l;omega) ⟨hl.1,fun s hs=>.inr ⟨(hl.2 s hs).1,by rw[(hl.2 s hs).2];simp only[Nat.mul_one];omega⟩⟩
  ·cases hv
 ·cases hv
theorem Zta(H:HRel C h L w)(hρ:Rho C h L w ρ ev){t e:TypeId}{i:TypeInfo}{ln:Nat}{p:AV}{p':Operand}{lo hi:Option Opd}{lo' hi':Option Operand}(ho:o.op=.slice t p' lo' hi' none)(rp:ZaH C h L w p (ev p'))
 (hlo:ZiE lo lo'=true) (hhi:ZiE hi hi'=true) (ht:C.P.underlying t=some (.array ln e)) (hinf:C.P.info? e=some i) (hsz:i.size=1)
 (hv:ZBJ std ρ ln p lo hi=some (true,v)):Snd C h L w ev o h v:=by
 unfold ZBJ at hv
 split at hv
 ·rename_i b1 l b2 m hl0 hm0
  generalize hxv:ev p'=pv at rp
  split at hv
  ·rename_i a j k off
   simp only[zS,zP,std_and]at hv
   obtain⟨⟨⟨rfl,rfl⟩,c1,c2⟩,rfl⟩:=hv
   have c1:l≤m:=by simpa[std]using c1
   have c2:m≤ln:=by simpa[std]using c2
   have e2:=Zb9 hρ hlo hl0 rfl
   have e3:=Zb9 hρ hhi hm0 rfl
   have hbd:=Zet (P:=C.P) (w:=w) (ev:=ev) (b:=false) (ln:=ln) (cap:=ln) (mx:=none) e2 e3 (.inl ⟨rfl,rfl⟩) (.inl rfl) c1 c2 (Nat.le_refl _)
   cases rp with
   |ptr _ _ _ _ g oo hl=>
    refine .pure H (r:=.slice (some (if ln=l then⟨g,oo,none⟩else(⟨g,oo,none⟩:Addr).add (l*1))) (m-l) (ln-l)) ?_ ?_
    ·simp only[Option.map_none]at hbd
     simp only[execOp,ho,Instr.sliceAt,Instr.sureAddr,Sem.run_bind,Zay ht,Result.andThen_ok,hxv,Sem.run_pure,ZbB hinf,hsz,Option.map_none]
     rw[hbd]
     simp
    ·split
     ·exact .aslc _ _ _ _ _ _ _ _ (by show m-l≤ln-l;omega) ⟨hl.1,fun s hs=>.inl (by show m-l=0;omega)⟩
     ·rw[Zbn]
      exact .aslc _ _ _ _ _ _ _ _ (by show m-l≤ln-l;omega) ⟨hl.1,fun s hs=>.inr ⟨(hl.2 s hs).1,by rw[(hl.2 s hs).2];simp only[Nat.mul_one];omega⟩⟩
  ·cases hv
 ·cases hv
theorem ZqL(H:HRel C h L w)(hρ:Rho C h L w ρ ev){t:TypeId}{x:AV}{x':Operand}{lo hi:Option Opd}{lo' hi':Option Operand}(ho:o.op=.slice t x' lo' hi' none)(rx:ZaH C h L w x (ev x'))
 (hlo:ZiE lo lo'=true) (hhi:ZiE hi hi'=true) (ht:C.P.underlying t=some .string) (hv:Zvn std ρ x lo hi=some (true,v)):Snd C h L w ev o h v:=by
 unfold Zvn at hv
 split at hv
 ·rename_i xs
  split at hv
  ·rename_i b1 l b2 m hl0 hm0
   simp only[zS,zP,std_and]at hv
   obtain⟨⟨⟨rfl,rfl⟩,c1,c2⟩,rfl⟩:=hv
   have c1:l≤m:=by simpa[std]using c1
   have c2:m≤xs.length:=by simpa[std]using c2
   have e2:=Zb9 hρ hlo hl0 rfl
   have e3:=Zb9 hρ hhi hm0 rfl
   have hbd:=Zet (P:=C.P) (w:=w) (ev:=ev) (b:=false) (ln:=xs.length) (cap:=xs.length) (mx:=none) e2 e3 (.inl ⟨rfl,rfl⟩) (.inl rfl) c1 c2 (Nat.le_refl _)
   have hsz:(⟨xs.toArray⟩:ByteArray).size=xs.length:=rfl
   have hex:(⟨xs.toArray⟩:ByteArray).extract l m=⟨(sub3 xs l (m-l)).toArray⟩:=by
    apply ByteArray.ext
    simp[sub3]
   refine .pure H (r:=.string ⟨(sub3 xs l (m-l)).toArray⟩) ?_ (.str _)
   simp only[Option.map_none]at hbd
   simp only[execOp,ho,Instr.sliceAt,Instr.slice,Sem.run_bind,Zay ht,Result.andThen_ok,Zl9 rx,Option.map_none,hsz,Option.isSome_none,Bool.false_eq_true,if_false]
   rw[hbd]
   simp[hex]
  ·cases hv
 ·cases hv
end
end Go.Proofs.YtkeoeooghhjibaaGreatDoor
namespace Go.Proofs.YtkeoeooghhjibaaGreatDoor
open Go.RowKit (Below)
def spl{α:Type}(l:List α)(o:Nat)(ys:List α):List α:=l.take o++ys++l.drop (o+ys.length)
theorem Za1{α:Type}{l:List α}{o:Nat}{ys:List α}(h:o+ys.length≤l.length):(spl l o ys).length=l.length:=by simp[spl];omega
theorem ZcJ{α:Type}{l:List α}{o:Nat}{ys:List α}(h:o+ys.length≤l.length)(j:Nat):(spl l o ys)[j]? =if o≤j∧j<o+ys.length then ys[j-o]? else l[j]?:=by
 unfold spl
 by_cases h1:j<o
 ·rw[if_neg (by omega),List.append_assoc,List.getElem?_append_left (by simp;omega),List.getElem?_take,if_pos h1]
 ·rw[List.append_assoc,List.getElem?_append_right (by simp;omega)]
  have hl:(l.take o).length=o:=by simp;omega
  rw[hl]
  by_cases h2:j<o+ys.length
  ·rw[if_pos ⟨by omega,h2⟩,List.getElem?_append_left (by omega)]
  ·rw[if_neg (by omega),List.getElem?_append_right (by omega),List.getElem?_drop]
   congr 1;omega
theorem ZgH{α:Type}{l:List α}{o:Nat}{ys:List α}{x:α}(h:x∈spl l o ys):x∈l∨x∈ys:=by
 simp only[spl,List.mem_append]at h
 rcases h with(h |h) |h
 ·exact .inl (List.mem_of_mem_take h)
 ·exact .inr h
 ·exact .inl (List.mem_of_mem_drop h)
theorem RelL.spl{w:World}{ok:Nat→Prop}{h:Zad}{L:Lay}{us xs:zA}{vs ys:List Value}(hr:RelL w ok h L us vs)(hx:RelL w ok h L xs ys)(o:Nat)(ho:o+xs.length≤us.length):
 RelL w ok h L (YtkeoeooghhjibaaGreatDoor.spl us o xs) (YtkeoeooghhjibaaGreatDoor.spl vs o ys):=by
 have h1:=hr.1
 have h2:=hx.1
 refine⟨by rw[Za1 ho,Za1 (by omega)];exact h1,fun j u v hu hv=>?_⟩
 rw[ZcJ ho]at hu
 rw[ZcJ (by omega)]at hv
 by_cases hc:o≤j∧j<o+xs.length
 ·rw[if_pos hc]at hu
  rw[if_pos (by omega)]at hv
  exact hx.2 _ u v hu hv
 ·rw[if_neg hc]at hu
  rw[if_neg (by omega)]at hv
  exact hr.2 _ u v hu hv
theorem ZeG{α:Type}(l:List α)(k:Nat)(x:α)(h:k<l.length):l.set k x=spl l k [x]:=by
 apply List.ext_getElem?
 intro j
 rw[ZcJ (by simp;omega)]
 by_cases hj:k=j
 ·subst hj;rw[List.getElem?_set_self h,if_pos (by simp)];simp
 ·rw[List.getElem?_set_ne hj,if_neg (by simp;omega)]
theorem Zif{sz:Nat} :∀ {xs:zA} {k:Nat} {v:AV},(∀x∈xs,x.flat.length=sz)→k<xs.length→v.flat.length=sz→Zai (xs.set k v)=spl (Zai xs) (k*sz) v.flat:=by
 intro xs k v hf hk hv
 have e:xs.set k v=xs.take k++[v]++xs.drop (k+1):=by rw[ZeG _ _ _ hk];rfl
 rw[e,ZaI,ZaI,Za8 _ _ hf,Zbh _ _ hf]
 unfold spl
 rw[hv,Nat.add_mul,Nat.one_mul]
 simp[Zai]
theorem Zh6{sz:Nat}{xs:zA}{k:Nat}{v:AV}(hf:∀x∈xs,x.flat.length=sz)(hv:v.flat.length=sz):∀x∈xs.set k v,x.flat.length=sz:=by
 intro x hx
 rcases List.mem_or_eq_of_mem_set hx with hx |rfl
 ·exact hf x hx
 ·exact hv
theorem Zsn{α:Type}{l:List α}{k sz off:Nat}{u xs:List α}(hk:k+sz≤l.length)(hu:∀j,j<sz→l[k+j]? =u[j]?)(hul:u.length=sz)(ho:off+xs.length≤sz):spl l k (spl u off xs)=spl l (k+off) xs:=by
 have hl:(spl u off xs).length=sz:=by rw[Za1 (by omega)];exact hul
 apply List.ext_getElem?
 intro j
 rw[ZcJ (l:=l) (o:=k) (ys:=spl u off xs) (by omega),ZcJ (l:=l) (o:=k+off) (ys:=xs) (by omega),hl]
 by_cases h1:k≤j∧j<k+sz
 ·rw[if_pos h1,ZcJ (by omega)]
  by_cases h2:off≤j-k∧j-k<off+xs.length
  ·rw[if_pos h2,if_pos (by omega)];congr 1;omega
  ·rw[if_neg h2,if_neg (by omega),←hu _ (by omega)];congr 1;omega
 ·rw[if_neg h1,if_neg (by omega)]
theorem ZAi{sz n off:Nat}{u x v:AV}(hu:u.flat.length=sz)(hv:ZHM std sz n off u x=some (true,v)):x.bx=true∧x.flat.length=n∧off+n≤sz∧v.flat=spl u.flat off x.flat:=by
 unfold ZHM at hv
 split at hv
 ·rename_i us xs
  split at hv
  ·rename_i e1 e2
   have e1:off=0:=by simpa using e1
   have e2:n=sz:=by simpa using e2
   subst e1;subst e2
   simp only[zS,zP]at hv
   obtain⟨hl,rfl⟩:=hv
   have hl:xs.elems.length=n:=by rw[Row.len_std]at hl;simpa[std]using hl
   refine⟨rfl,hl,by omega,?_⟩
   have:(AV.agg us).flat=us.elems:=rfl
   simp only[spl,AV.flat,List.take_zero,List.nil_append]
   rw[List.drop_of_length_le (by rw[this]at hu;omega),List.append_nil]
  ·simp only[zS,zP,std_and]at hv
   obtain⟨⟨hl,hle⟩,rfl⟩:=hv
   have hl:xs.elems.length=n:=by rw[Row.len_std]at hl;simpa[std]using hl
   have hle:off+n≤sz:=by simpa[std]using hle
   exact⟨rfl,hl,hle,Row.blit_std _ _ _⟩
 ·rename_i us hx
  simp only[zS,zP,std_and]at hv
  obtain⟨⟨⟨hb,hn⟩,hlt⟩,rfl⟩:=hv
  have hn:n=1:=by simpa[std]using hn
  have hlt:off<sz:=by simpa[std]using hlt
  subst hn
  have hf:x.flat=[x]:=ZbG (by cases x<;>first |rfl |exact(hx _ rfl).elim)
  refine⟨hb,by rw[hf];rfl,hlt,?_⟩
  rw[hf]
  show(us.set std off x).elems=_
  rw[Row.set_std]
  exact ZeG _ _ _ (by rw[show us.elems.length=sz from hu];exact hlt)
 ·rename_i hx1 hx2
  simp only[zS,zP,std_and]at hv
  obtain⟨⟨⟨hb,h0⟩,hn,hl⟩,rfl⟩:=hv
  have h0:off=0:=by simpa[std]using h0
  have hn:n=sz:=by simpa[std]using hn
  subst h0;subst hn
  have hl:x.flat.length=n:=by
   rw[Zbc]at hl;simpa[std]using hl
  refine⟨hb,hl,by omega,?_⟩
  simp only[spl,List.take_zero,List.nil_append]
  rw[List.drop_of_length_le (by omega),List.append_nil]
section
variable {C:Ctx}{o:Oper}{ρ:Opd→AV}{ev:Operand→Value}{h h':Zad}{w w':World}{L:Lay}{v:AV}{P:Program}
theorem ZmD(w:World)(g:Nat)(cs:Array Value):w.grownBy (w.setRow g cs) (some g):=⟨rfl,rfl,rfl,by simp,fun k _ hne=>setRow_other w g k cs (fun e=>hne (by rw[e]))⟩
theorem HRel.write(H:HRel C h L w){a i e sz:Nat}{r r':Row}(hb:blk h a i=.row e sz r)(hn:L.size a i≠0){q:Nat}{xs:zA}{ys:List Value}(hr':Zai r'.elems=spl (Zai r.elems) q xs)(hlen:r'.elems.length=r.elems.length)(hf:∀x∈r'.elems,x.flat.length=sz)
 (hq:q+xs.length≤r.elems.length*sz) (hx:RelL w (Zaz C h L) h L xs ys) (h1:∀c∈ys,c.oneCell'=true):
 ∃cur:Array Value,w.heap[L.loc a i]? =some (.cells cur e (0,0))∧q+ys.length≤cur.size∧
  Step w (Zaz C h L) h L (w.setRow (L.loc a i) (spl cur.toList q ys).toArray) (Zaz C (ZaY h a i (.row e sz r')) L) (ZaY h a i (.row e sz r')) L∧HRel C (ZaY h a i (.row e sz r')) L (w.setRow (L.loc a i) (spl cur.toList q ys).toArray):=by
 obtain⟨ht,h0,g1,g2,g3⟩:=H.rowAt hb
 obtain⟨hpl,cur,h4,h5,h6,h7,h8⟩:=H.curAt hb hn
 have hfl:=Zax g3
 have hxl:=hx.1
 have hge:r.elems.length*sz≤cur.size:=by rw[h5];exact Nat.mul_le_mul_right _ g2
 have hqc:q+ys.length≤cur.size:=by omega
 refine⟨cur,h4,hqc,H.set hpl (by rw[ht];simp[Blk.tag,hlen]) (ZmD _ _ _) (fun s=>?_)⟩
 have htake:((spl cur.toList q ys).toArray.toList).take (r'.elems.length*sz)=spl (cur.toList.take (r.elems.length*sz)) q ys:=by
  rw[hlen,List.toList_toArray]
  apply List.ext_getElem?
  intro j
  rw[ZcJ (by simp;omega),List.getElem?_take,ZcJ (by simpa using hqc),List.getElem?_take]
  by_cases hj:j<r.elems.length*sz
  ·rw[if_pos hj,if_pos hj]
  ·rw[if_neg hj,if_neg hj,if_neg (by omega)]
 refine⟨h0,g1,by rw[hlen];exact g2,hf,fun _=>⟨_,setRow_heap w _ cur _ e (0,0) h4,by simp only[List.size_toArray];rw[Za1 (by simpa using hqc)];simpa using h5,?_,?_⟩⟩
 ·rw[htake,hr']
  exact(h6.spl hx q (by omega)).step s
 ·rw[htake]
  intro c hc
  rcases ZgH hc with hc |hc
  ·exact h7 c hc
  ·exact h1 c hc
theorem Ze0(H:HRel C h L w){t:TypeId}{i:TypeInfo}{n:Nat}{p x:AV}{p' x':Operand}(ho:o.op=.store t p' x')(hd:o.dst=none)(rp:ZaH C h L w p (ev p'))(rx:ZaH C h L w x (ev x'))
 (hi:C.P.info? t=some i) (hn:i.size=n) (hv:ZdK std h n p x=some (true,v,h')):Snd C h L w ev o h' v:=by
 unfold ZdK at hv
 split at hv
 ·rename_i a j k off
  split at hv
  ·rename_i e sz r hb
   split at hv
   ·rename_i b u hput
    simp only[zS,zP,std_and]at hv
    obtain⟨⟨hk,rfl⟩,rfl,rfl⟩:=hv
    have hk:k<r.elems.length:=by rw[Row.len_std]at hk;simpa[std]using hk
    obtain⟨ht,h0,g1,g2,g3⟩:=H.rowAt hb
    have hget:=Row.get_std hk
    have hul:=g3 _ (List.mem_of_getElem? hget)
    obtain⟨hbx,hxl,hon,hvf⟩:=ZAi hul hput
    obtain⟨c1,c2⟩:=rx.cells hbx
    have hge:k*sz+sz≤r.elems.length*sz:=by
     have:=Nat.mul_le_mul_right sz (Nat.succ_le_of_lt hk)
     rwa[Nat.succ_mul]at this
    have hfa:=Zax g3
    have hvl:u.flat.length=sz:=by rw[hvf,Za1 (by omega)];exact hul
    have hfl':Zai (r.set std k u).elems=spl (Zai r.elems) (k*sz+off) x.flat:=by
     rw[Row.set_std,Zif g3 hk hvl,hvf]
     exact Zsn (by omega) (fun j hj=>ZeJ g3 hget j hj) hul (by omega)
    obtain⟨cur,h4',hfit,hs,H'⟩:=H.write hb (by omega) (r':=r.set std k u) hfl' (by rw[Row.set_std,List.length_set]) (by rw[Row.set_std];exact Zh6 g3 hvl) (by omega) c1 (by simpa using c2)
    generalize hpv:ev p'=pv at rp
    cases rp with
    |ptr _ _ _ _ g oo hl=>
     obtain⟨rfl,rfl⟩:=hl.2 _ ht
     refine⟨_,L,undef, .inr ⟨?_,hd⟩,hs,H',fun e=>absurd hd e⟩
     have hst:=run_storeCells_at C.P (L.loc a j) (k*sz+off) e (ev x').cells.toList 0 cur w h4' (by simpa using hfit) (by simpa using c2)
     have hsz:(ev x').cells.size=i.size:=by rw[hn,←Array.length_toList,←c1.1];exact hxl
     simp only[Nat.add_zero]at hst
     simp only[execOp,ho,Instr.storeAt,hpv,Instr.sureAddr,Sem.run_bind,Sem.run_pure,Result.andThen_ok,storeVar,ZbB hi,hsz,ne_eq,not_true_eq_false,if_false,hst]
     rfl
   ·cases hv
  ·cases hv
 ·cases hv
theorem HRel.newRow(H:HRel C h L w)(a:Nat){e sz:Nat}{r:Row}{cur:Array Value}(hsz:0<sz)(hf:∀x∈r.elems,x.flat.length=sz)(hr:RelL w (Zaz C h L) h L (Zai r.elems) cur.toList)(h1:∀c∈cur,c.oneCell'=true)(hm:r.elems.length≤maxLen):
 Step w (Zaz C h L) h L (w.alloc (.cells cur e)) (Zaz C (Zal h a (.row e sz r)) (L.put a (nxt h a) w.heap.size r.elems.length)) (Zal h a (.row e sz r)) (L.put a (nxt h a) w.heap.size r.elems.length)∧
 HRel C (Zal h a (.row e sz r)) (L.put a (nxt h a) w.heap.size r.elems.length) (w.alloc (.cells cur e)):=by
 have hl:r.elems.length*sz=cur.size:=by have:=hr.1;rw[Zax hf]at this;simpa using this
 refine H.push a _ _ _ ((Below.refl _ _).alloc (Nat.le_refl _) _) ⟨Nat.le_refl _,by simp⟩ (fun s=>⟨hsz,hm,Nat.le_refl _,hf,fun _=>⟨cur,heap_alloc_new w _,by rw[←hl],?_,?_⟩⟩)
 ·rw[hl,List.take_of_length_le (by simp)];exact hr.step s
 ·intro c hc;exact h1 c (by simpa using List.mem_of_mem_take hc)
theorem ZhM(h:Zad)(a:Nat)(b:Blk):blk (Zal h a b) a (nxt h a)=b:=by rw[Za3,if_pos ⟨rfl,rfl⟩]
theorem ZcB{h:Zad}{L:Lay}{a:Nat}{b:Blk}{g n:Nat}{p:Nat→Nat×Nat→Prop}(hp:∀sz,b.tag=some sz→p g sz):Live (Zal h a b) (L.put a (nxt h a) g n) a (nxt h a) p:=by
 refine⟨by rw[Zcs,if_pos rfl];omega,fun sz hsz=>?_⟩
 rw[ZhM]at hsz
 rw[Lay.put_loc];exact hp sz hsz
theorem ZvE(H:HRel C h L w)(a:Nat)(e:TypeId){x:AV}{xv:Value}(hx:ZaH C h L w x xv)(hb:x.bx=true)(hpos:0<x.flat.length):
 ∃L',Step w (Zaz C h L) h L (w.alloc (.cells xv.cells e)) (Zaz C (Zal h a (.row e (Zac std x) (.gen [x]))) L') (Zal h a (.row e (Zac std x) (.gen [x]))) L'∧HRel C (Zal h a (.row e (Zac std x) (.gen [x]))) L' (w.alloc (.cells xv.cells e))∧
  ZaH C (Zal h a (.row e (Zac std x) (.gen [x]))) L' (w.alloc (.cells xv.cells e)) (.ptr a (nxt h a) 0 0) (.pointer (some ⟨w.heap.size,0,none⟩)):=by
 obtain⟨c1,c2⟩:=hx.cells hb
 have hn:=H.newRow a (e:=e) (sz:=Zac std x) (r:=.gen [x]) (cur:=xv.cells) (by rw[Zbc];exact hpos) (by simp[Row.elems,Zbc]) (by simpa[Row.elems,Zai]using c1) c2 (by simp[Row.elems,maxLen])
 refine⟨_,hn.1,hn.2, .ptr _ _ _ _ _ _ (ZcB (fun sz hsz=>⟨rfl,by simp⟩))⟩
theorem Zro(H:HRel C h L w){a:Nat}{e:TypeId}{x:AV}{x':Operand}(ho:o.op=.box e x')(rx:ZaH C h L w x (ev x'))(hb:x.bx=true)(hpos:0<x.flat.length):Snd C h L w ev o (Zal h a (.row e (Zac std x) (.gen [x]))) (.ptr a (nxt h a) 0 0):=by
 obtain⟨L',s,H',r⟩:=ZvE H a e rx hb hpos
 exact⟨_,L', .pointer (some ⟨w.heap.size,0,none⟩), .inl (by simp[execOp,ho,Instr.box,newVar,newRow]),s,H',fun _=>r⟩
theorem Zm0(H:HRel C h L w){a:Nat}{e:TypeId}{i:TypeInfo}{z:AV}{zv:Value}(ho:o.op=.alloc e)(hi:C.P.info? e=some i)(hz:i.zero=some zv)(hm:ZdG z zv=true)(hb:z.bx=true)(hpos:0<z.flat.length):
 Snd C h L w ev o (Zal h a (.row e (Zac std z) (.gen [z]))) (.ptr a (nxt h a) 0 0):=by
 obtain⟨L',s,H',r⟩:=ZvE H a e (Zcv hm) hb hpos
 exact⟨_,L', .pointer (some ⟨w.heap.size,0,none⟩), .inl (by simp[execOp,ho,Instr.alloc,zeroValue,typeInfo,hi,hz,newVar,newRow]),s,H',fun _=>r⟩
def Zle:List Value→List (Nat×List Value)→List Value
 |cells,[]=>cells
 |cells,(o,vs)::rest=>Zle (spl cells o vs) rest
theorem Zl5:∀(vs:List Value) (k off:Nat) (cells:Array Value),off+k+vs.length≤cells.size→
 ((vs.zipIdx k).foldl (fun cs (p:Value×Nat)=>cs.setIfInBounds (off+p.2) p.1) cells).toList=spl cells.toList (off+k) vs
 |[],k,off,cells,_=>by simp[spl]
 |v::vs,k,off,cells,h=>by
  simp only[List.zipIdx_cons,List.foldl_cons]
  simp only[List.length_cons]at h
  rw[Zl5 vs (k+1) off _ (by simp;omega)]
  simp only[Array.toList_setIfInBounds]
  rw[ZeG _ _ _ (by simp;omega)]
  apply List.ext_getElem?
  intro j
  have hl1:off+k+[v].length≤cells.toList.length:=by simp;omega
  have hl2:=Za1 hl1
  rw[ZcJ (by rw[hl2];simp;omega),ZcJ hl1,ZcJ (by simp;omega)]
  simp only[List.length_cons,List.length_nil]
  by_cases c1:off+(k+1)≤j∧j<off+(k+1)+vs.length
  ·rw[if_pos c1,if_pos (by omega)]
   rw[show j-(off+k)=(j-(off+(k+1)))+1 from by omega,List.getElem?_cons_succ]
  ·rw[if_neg c1]
   by_cases c2:j=off+k
   ·subst c2;rw[if_pos (by omega),if_pos (by omega)];simp
   ·rw[if_neg (by omega),if_neg (by omega)]
theorem Zob(place:Nat→Option (Nat×Nat))(off:Nat→Nat):∀(parts:List (Nat×Value)) (cells:Array Value),
 (∀p∈parts,place p.1=some (off p.1,p.2.cells.size)∧off p.1+p.2.cells.size≤cells.size)→
 ∃out,Instr.fill place cells parts=some out∧out.toList=Zle cells.toList (parts.map fun p=>(off p.1,p.2.cells.toList))
 |[],cells,_=>⟨cells,rfl,rfl⟩
 |(i,v)::rest,cells,h=>by
  obtain⟨h1,h2⟩:=h (i,v) (by simp)
  dsimp only at h1 h2
  have hf:=Zl5 v.cells.toList 0 (off i) cells (by simp only[Array.length_toList];omega)
  have hsz:(v.cells.zipIdx.foldl (fun cs (p:Value×Nat)=>cs.setIfInBounds (off i+p.2) p.1) cells).size=cells.size:=by
   rw[←Array.length_toList,←Array.foldl_toList,Array.toList_zipIdx,hf,Za1 (by simp;omega),Array.length_toList]
  obtain⟨out,e1,e2⟩:=Zob place off rest (v.cells.zipIdx.foldl (fun cs (p:Value×Nat)=>cs.setIfInBounds (off i+p.2) p.1) cells) (fun p hp=>by
   rw[hsz];exact h p (by simp[hp]))
  refine⟨out,?_,?_⟩
  ·simp only[Instr.fill,h1]
   rw[if_neg (by simp;omega)]
   exact e1
  ·rw[e2]
   simp only[List.map_cons,Zle]
   congr 1
   rw[←Array.foldl_toList,Array.toList_zipIdx,hf]
   simp
theorem Zmf{t:TypeId}{z:Value}{place:Nat→Option (Nat×Nat)}(hp:ZhN P t=some (z,place))(parts:List (Nat×Value)):P.built t parts=Instr.fill place z.cells parts:=by
 unfold ZhN at hp
 unfold Program.built
 split at hp
 ·rename_i e1 e2
  rw[e1,e2]
  split at hp
  ·rename_i f1 f2
   cases hp
   simp[f1,f2]
  ·cases hp
 ·rename_i e1 e2
  rw[e1,e2]
  split at hp
  ·rename_i f1 f2
   cases hp
   simp[f1,f2]
  ·cases hp
 ·cases hp
theorem Zoj(hρ:Rho C h L w ρ ev)(place:Nat→Option (Nat×Nat))(off:Nat→Nat):∀(ps:List (Nat×Nat×Opd)) (qs:List (Nat×Operand)) (r r':Row) (vs:List Value),Zh1 place ps qs=true→Zil std ρ r ps=(true,r')→(∀i o n,place i=some (o,n)→off i=o)→
 RelL w (Zaz C h L) h L r.elems vs→(∀c∈vs,c.oneCell'=true)→
 (∀q∈qs,place q.1=some (off q.1,(ev q.2).cells.size)∧off q.1+(ev q.2).cells.size≤vs.length)∧
 RelL w (Zaz C h L) h L r'.elems (Zle vs (qs.map fun q=>(off q.1,(ev q.2).cells.toList)))∧∀c∈Zle vs (qs.map fun q=>(off q.1,(ev q.2).cells.toList)),c.oneCell'=true
 |[],[],r,r',vs,_,hf,_,hr,h1=>by
  simp only[Zil,zP,true_and]at hf;subst hf
  exact⟨(fun q hq=>by cases hq),hr,h1⟩
 |(o,n,x)::ps,(i,y)::qs,r,r',vs,hm,hf,hoff,hr,h1=>by
  simp only[Zh1,Bool.and_eq_true,beq_iff_eq]at hm
  obtain⟨⟨hpl,hxy⟩,hm⟩:=hm
  have ho:=hoff i o n hpl
  subst ho
  have rx:=hρ.rel x y hxy
  simp only[Zil]at hf
  generalize hg:Zil std ρ (match ρ x with | .agg xs=>r.blit std (off i) xs |v=>r.set std (off i) v) ps=res at hf
  obtain⟨b,r2⟩:=res
  simp only[zP,std_and]at hf
  obtain⟨⟨⟨hbx,hfl⟩,hle,hpos,rfl⟩,rfl⟩:=hf
  rw[Zbc]at hfl
  have hfl:(ρ x).flat.length=n:=by simpa[std]using hfl
  have hle:off i+n≤r.elems.length:=by rw[Row.len_std]at hle;simpa[std]using hle
  have hpos:0<n:=by simpa[std]using hpos
  obtain⟨c1,c2⟩:=rx.cells hbx
  have hel:(match ρ x with | .agg xs=>r.blit std (off i) xs |v=>r.set std (off i) v).elems=spl r.elems (off i) (ρ x).flat:=by
   split
   ·rename_i xs hx;rw[hx]at *;exact Row.blit_std _ _ _
   ·rename_i hx
    have hs:(ρ x).flat=[ρ x]:=ZbG (by generalize ρ x=u at hx;cases u<;>first |rfl |exact(hx _ rfl).elim)
    rw[hs,Row.set_std]
    exact ZeG _ _ _ (by omega)
  have hvl:(ev y).cells.size=n:=by have:=c1.1;rw[hfl]at this;simpa using this.symm
  have ih:=Zoj hρ place off ps qs _ r2 (spl vs (off i) (ev y).cells.toList) hm hg hoff (by rw[hel];exact hr.spl c1 _ (by omega)) (fun c hc=>by
   rcases ZgH hc with hc |hc
   ·exact h1 c hc
   ·exact c2 c (by simpa using hc))
  have hsl:(spl vs (off i) (ev y).cells.toList).length=vs.length:=Za1 (by have:=hr.1;simp;omega)
  refine⟨fun q hq=>?_,ih.2⟩
  rcases List.mem_cons.1 hq with rfl |hq
  ·exact⟨by rw[hvl];exact hpl,by have:=hr.1;simp only;omega⟩
  ·have:=ih.1 q hq;rw[hsl]at this;exact this
 |[],_::_,_,_,_,hm,_,_,_,_=>by simp[Zh1]at hm
 |_::_,[],_,_,_,hm,_,_,_,_=>by simp[Zh1]at hm
theorem ZnZ(H:HRel C h L w)(hρ:Rho C h L w ρ ev){t:TypeId}{z r':Row}{zv:Value}{place:Nat→Option (Nat×Nat)}{parts:List (Nat×Nat×Opd)}{parts':Array (Nat×Operand)}(ho:o.op=.build t parts')
 (hpl:ZhN C.P t=some (zv,place)) (hz:ZdG (.agg z) zv=true) (hm:Zh1 place parts parts'.toList=true) (hv:Zil std ρ z parts=(true,r')):Snd C h L w ev o h (.agg r'):=by
 have hzr:ZaH C h L w (.agg z) zv:=Zcv hz
 obtain⟨zc,hzv,hzr,hz1⟩:=ZiO hzr
 let off:Nat→Nat:=fun i=>((place i).map (·.1)).getD 0
 obtain⟨f1,f2,f3⟩:=Zoj hρ place off parts parts'.toList z r' zc.toList hm hv (fun i o n e=>by simp[off,e]) hzr (by simpa using hz1)
 obtain⟨out,e1,e2⟩:=Zob place off (parts'.toList.map fun(i,x)=>(i,ev x)) zc (by
  intro p hp
  obtain⟨q,hq,rfl⟩:=List.mem_map.1 hp
  have:=f1 q hq
  simpa using this)
 have hrun:C.P.built t (parts'.map fun(i,x)=>(i,ev x)).toList=some out:=by
  rw[Zmf hpl,hzv]
  simpa[Value.cells]using e1
 rw[List.map_map]at e2
 have e2:out.toList=Zle zc.toList (parts'.toList.map fun q=>(off q.1,(ev q.2).cells.toList)):=e2
 refine .pure H (r:=.agg out) (by simp[execOp,ho,run_build w t _ out hrun]) ?_
 exact .agg r' _ rfl _ (by rw[←Array.length_toList,e2];exact f2.1) (fun c hc=>f3 c (by rw[←e2];simpa using hc)) (fun j u v hu hv=>f2.2 j u v hu (by rw[←e2];simpa using hv))
end
end Go.Proofs.YtkeoeooghhjibaaGreatDoor
