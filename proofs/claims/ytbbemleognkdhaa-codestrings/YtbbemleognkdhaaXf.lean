/- Rows under the plain arithmetic; reading what a slice holds. No condition. -/
import Derived.Test.YtbbemleognkdhaaXc
namespace Go.Proofs.Ytbbemleognkdhaa
open Go.RowKit (Below)
mutual
theorem Zdv:∀ {s t:Sh},Zbc s t=true→s=t
 | .int k, .int k',h=>by simp only[Zbc,decide_eq_true_eq]at h;rw[h]
 | .bool, .bool,_=>rfl
 | .str, .str,_=>rfl
 | .flt k, .flt k',h=>by simp only[Zbc,decide_eq_true_eq]at h;rw[h]
 | .ints k, .ints k',h=>by simp only[Zbc,decide_eq_true_eq]at h;rw[h]
 | .big s, .big t,h=>by simp only[Zbc]at h;rw[Zdv h]
 | .agg ss, .agg ts,h=>by simp only[Zbc]at h;rw[Zi2 h]
 | .int _, .bool,h=>by simp[Zbc]at h
 | .int _, .str,h=>by simp[Zbc]at h
 | .int _, .flt _,h=>by simp[Zbc]at h
 | .int _, .ints _,h=>by simp[Zbc]at h
 | .int _, .big _,h=>by simp[Zbc]at h
 | .int _, .agg _,h=>by simp[Zbc]at h
 | .bool, .int _,h=>by simp[Zbc]at h
 | .bool, .str,h=>by simp[Zbc]at h
 | .bool, .flt _,h=>by simp[Zbc]at h
 | .bool, .ints _,h=>by simp[Zbc]at h
 | .bool, .big _,h=>by simp[Zbc]at h
 | .bool, .agg _,h=>by simp[Zbc]at h
 | .str, .int _,h=>by simp[Zbc]at h
 | .str, .bool,h=>by simp[Zbc]at h
 | .str, .flt _,h=>by simp[Zbc]at h
 | .str, .ints _,h=>by simp[Zbc]at h
 | .str, .big _,h=>by simp[Zbc]at h
 | .str, .agg _,h=>by simp[Zbc]at h
 | .flt _, .int _,h=>by simp[Zbc]at h
 | .flt _, .bool,h=>by simp[Zbc]at h
 | .flt _, .str,h=>by simp[Zbc]at h
 | .flt _, .ints _,h=>by simp[Zbc]at h
 | .flt _, .big _,h=>by simp[Zbc]at h
 | .flt _, .agg _,h=>by simp[Zbc]at h
 | .ints _, .int _,h=>by simp[Zbc]at h
 | .ints _, .bool,h=>by simp[Zbc]at h
 | .ints _, .str,h=>by simp[Zbc]at h
 | .ints _, .flt _,h=>by simp[Zbc]at h
 | .ints _, .big _,h=>by simp[Zbc]at h
 | .ints _, .agg _,h=>by simp[Zbc]at h
 | .big _, .int _,h=>by simp[Zbc]at h
 | .big _, .bool,h=>by simp[Zbc]at h
 | .big _, .str,h=>by simp[Zbc]at h
 | .big _, .flt _,h=>by simp[Zbc]at h
 | .big _, .ints _,h=>by simp[Zbc]at h
 | .big _, .agg _,h=>by simp[Zbc]at h
 | .agg _, .int _,h=>by simp[Zbc]at h
 | .agg _, .bool,h=>by simp[Zbc]at h
 | .agg _, .str,h=>by simp[Zbc]at h
 | .agg _, .flt _,h=>by simp[Zbc]at h
 | .agg _, .ints _,h=>by simp[Zbc]at h
 | .agg _, .big _,h=>by simp[Zbc]at h
theorem Zi2:∀ {s t:List Sh},ZkJ s t=true→s=t
 |[],[],_=>rfl
 |s::ss,t::ts,h=>by
  simp only[ZkJ]at h
  split at h
  ·rename_i e;rw[Zdv e,Zi2 h]
  ·cases h
 |[],_::_,h=>by simp[ZkJ]at h
 |_::_,[],h=>by simp[ZkJ]at h
end
theorem ZfF{s:Sh}{v:AV}(h:Zlm s v=true):s.view1 v=v:=by
 unfold Zlm at h
 split at h
 ·have:=of_decide_eq_true h;subst this;rfl
 ·rfl
 ·rfl
 ·have:=of_decide_eq_true h;subst this;rfl
 ·have:=of_decide_eq_true h;subst this;rfl
 ·have:=Zdv h;subst this;rfl
 ·cases h
theorem Zfu:∀ {ss:List Sh} {xs ys:List AV} {i:Nat} {zs:List AV},ZkO ss xs=true→zs=ys++xs→ys.length=i→ZcR ss i (.agg (.gen zs))=xs
 |[],[],_,_,_,_,_,_=>rfl
 |s::ss,x::xs,ys,i,zs,h,e,hi=>by
  simp only[ZkO]at h
  split at h
  ·rename_i h1
   have hx:(AV.agg (.gen zs)).cellAt i=x:=by simp[AV.cellAt,e,←hi]
   simp only[ZcR,hx,ZfF h1]
   rw[Zfu (ys:=ys++[x]) h (by rw[e];simp) (by simp[hi])]
  ·cases h
 |[],_::_,_,_,_,h,_,_=>by simp[ZkO]at h
 |_::_,[],_,_,_,h,_,_=>by simp[ZkO]at h
theorem Zdl{s:Sh}{v:AV}(h:ZqR s v=true):s.view v=v:=by
 unfold ZqR at h
 split at h
 ·rename_i ss xs
  simp only[Sh.view]
  have e:=Zfu (ss:=ss) (xs:=xs) (ys:=[]) (i:=0) (zs:=xs) h rfl rfl
  rw[e]
 ·cases h
 ·rename_i hne
  have:=ZfF h
  cases s with
  |agg ss=>simp[Zlm]at h
  |_=>simp only[Sh.view];exact this
theorem Zcr{s:Sh} :∀ {xs:List AV},Zkp s xs=true→xs.map s.view=xs
 |[],_=>rfl
 |x::xs,h=>by
  simp only[Zkp]at h
  split at h
  ·rename_i h1;rw[List.map_cons,Zdl h1,Zcr h]
  ·cases h
theorem Zht:∀(ss:List Sh) (i:Nat) (v:AV),(ZcR ss i v).length=ss.length
 |[],_,_=>rfl
 |s::ss,i,v=>by simp[ZcR,Zht ss]
theorem Zcj(s:Sh)(v:AV):(s.view1 v).single=true:=by cases s<;>rfl
theorem ZlP(s:Sh)(v:AV):(s.view v).bx=true∧(s.view v).flat.length=s.len:=by
 cases s with
 |agg ss=>exact⟨rfl,Zht ss 0 v⟩
 |_=>exact⟨rfl,rfl⟩
theorem Row.len_std(r:Row):r.len std=r.elems.length:=by cases r<;>simp[Row.len,Row.elems,std]
theorem Row.get_std{r:Row}{j:Nat}(hj:j<r.elems.length):r.elems[j]? =some (r.get std j):=by
 cases r with
 |gen xs=>simp only[Row.elems]at hj ⊢;simp[Row.get,List.getD_eq_getElem?_getD,List.getElem?_eq_getElem hj]
 |ints k l=>simp only[Row.elems,List.length_map]at hj;simp[Row.elems,Row.get,std,List.getElem?_eq_getElem hj]
 |flts k l=>simp only[Row.elems,List.length_map]at hj;simp[Row.elems,Row.get,std,List.getElem?_eq_getElem hj]
 |big sh xs=>simp only[Row.elems,List.length_map]at hj;simp[Row.elems,Row.get,std,List.getElem?_eq_getElem hj]
theorem Row.set_std(r:Row)(j:Nat)(v:AV):(r.set std j v).elems=r.elems.set j v:=by
 unfold Row.set
 split
 ·split
  ·rename_i hk;have:=of_decide_eq_true hk;subst this;simp[Row.elems,std]
  ·rfl
 ·split
  ·rename_i hk;have:=of_decide_eq_true hk;subst this;simp[Row.elems,std]
  ·rfl
 ·split
  ·rename_i hk;simp only[Row.elems,std,List.map_set,Zdl hk]
  ·rfl
 ·rfl
theorem Row.app_std(r s:Row):(r.app std s).elems=r.elems++s.elems:=by
 unfold Row.app
 split
 ·simp[Row.elems]
 ·simp[Row.elems]
 ·split
  ·rename_i hk;have:=of_decide_eq_true hk;subst this;simp[Row.elems,std]
  ·rfl
 ·split
  ·rename_i hk;have:=of_decide_eq_true hk;subst this;simp[Row.elems,std]
  ·rfl
 ·split
  ·rename_i hk;have:=Zdv hk;subst this;simp[Row.elems,std]
  ·rfl
 ·split
  ·rename_i hk;simp only[Row.elems,std,List.map_append,Zcr hk]
  ·rfl
 ·split
  ·rename_i hk;simp only[Row.elems,std,List.map_append,Zcr hk]
  ·rfl
 ·rfl
theorem Za0{α β:Type}(f:α→β)(l:List α)(k n:Nat):(sub3 l k n).map f=sub3 (l.map f) k n:=by simp[sub3,List.map_take,List.map_drop]
theorem Row.sub_std(r:Row)(k n:Nat):(r.sub std k n).elems=sub3 r.elems k n:=by
 cases r with
 |gen xs=>rfl
 |ints kd l=>exact Za0 _ l k n
 |flts kd l=>exact Za0 _ l k n
 |big sh xs=>exact Za0 _ xs k n
theorem ZeH{α:Type}(l:List α)(k:Nat):sub3 l 0 k=l.take k:=by simp[sub3]
theorem ZeE{α:Type}(l:List α)(k:Nat):sub3 l k l.length=l.drop k:=by simp[sub3];rw[List.take_of_length_le];simp
theorem Row.blit_std(r:Row)(k:Nat)(s:Row):(r.blit std k s).elems=r.elems.take k++s.elems++r.elems.drop (k+s.elems.length):=by
 unfold Row.blit
 split
 ·split
  ·rename_i hk;have:=of_decide_eq_true hk;subst this
   simp only[Row.elems,std,List.map_append,Za0,List.length_map]
   rw[ZeH,←Za0,ZeE,List.map_drop]
  ·rfl
 ·split
  ·rename_i hk;have:=of_decide_eq_true hk;subst this
   simp only[Row.elems,std,List.map_append,Za0,List.length_map]
   rw[ZeH,←Za0,ZeE,List.map_drop]
  ·rfl
 ·split
  ·rename_i hk;have:=Zdv hk;subst this
   simp only[Row.elems,std,List.map_append,Za0,List.length_map]
   rw[ZeH,←Za0,ZeE,List.map_drop]
  ·rfl
 ·simp[Row.elems]
 ·rfl
theorem ZfN{k:IntKind} :∀ {xs:List AV} {l:List Int},ZjL k xs=some l→l.map (.int k)=xs
 |[],l,h=>by cases h;rfl
 | .int k' n::r,l,h=>by
   simp only[ZjL]at h
   split at h
   ·rename_i hk
    have:=of_decide_eq_true hk;subst this
    split at h
    ·rename_i l' hl;cases h;simp[ZfN hl]
    ·cases h
   ·cases h
theorem ZfH{k:FloatKind} :∀ {xs:List AV} {l:List Nat},Zjq k xs=some l→l.map (.flt k)=xs
 |[],l,h=>by cases h;rfl
 | .flt k' n::r,l,h=>by
   simp only[Zjq]at h
   split at h
   ·rename_i hk
    have:=of_decide_eq_true hk;subst this
    split at h
    ·rename_i l' hl;cases h;simp[ZfH hl]
    ·cases h
   ·cases h
theorem Zco(xs:List AV):(Zit xs).elems=xs:=by
 unfold Zit
 split
 ·split
  ·rename_i l hl;simp[Row.elems,ZfN hl]
  ·rfl
 ·split
  ·rename_i l hl;simp[Row.elems,ZfH hl]
  ·rfl
 ·split
  ·split
   ·rename_i hc;exact Zcr hc
   ·rfl
  ·rfl
 ·rfl
theorem Zdi(r:Row):(Zj9 r).elems=r.elems:=by cases r<;>first |rfl |exact Zco _
theorem ZaY(n:Nat)(v:AV):(ZhV std n v).elems=List.replicate n v:=by
 unfold ZhV
 split
 ·simp[Row.elems,std]
 ·simp[Row.elems,std]
 ·split
  ·split
   ·rename_i hc;simp[Row.elems,std,Zdl hc]
   ·rfl
  ·rfl
theorem Row.part_std{r:Row}{k n:Nat}(h:k+n≤r.elems.length):(r.part std k n).elems=sub3 r.elems k n:=by
 cases r with
 |gen xs=>rfl
 |ints kd l=>exact Za0 _ l k n
 |flts kd l=>exact Za0 _ l k n
 |big sh xs=>exact Za0 _ xs k n
theorem Row.sing_std{r:Row}(h:r.sing=true):∀x∈r.elems,x.single=true:=by
 cases r with
 |gen xs=>exact List.all_eq_true.1 h
 |ints k l=>intro x hx;simp[Row.elems]at hx;obtain⟨_,_,rfl⟩:=hx;rfl
 |flts k l=>intro x hx;simp[Row.elems]at hx;obtain⟨_,_,rfl⟩:=hx;rfl
 |big sh xs=>
  intro x hx;simp[Row.elems]at hx;obtain⟨y,_,rfl⟩:=hx
  cases sh with
  |agg ss=>cases h
  |_=>simp only[Sh.view];exact Zcj _ _
theorem ZaF(x:AV):Zas std x=x.flat.length:=by cases x<;>first |rfl |exact Row.len_std _
theorem Row.fits_std{r:Row}{sz:Nat}(h:r.fits std sz=true):∀x∈r.elems,x.bx=true∧x.flat.length=sz:=by
 cases r with
 |gen xs=>
  intro x hx
  have:=List.all_eq_true.1 h x hx
  simp only[Bool.and_eq_true,Nat.beq_eq,ZaF]at this
  exact this
 |ints k l=>intro x hx;simp[Row.elems]at hx;obtain⟨_,_,rfl⟩:=hx;exact⟨rfl,(by simpa[Row.fits]using h:sz=1).symm⟩
 |flts k l=>intro x hx;simp[Row.elems]at hx;obtain⟨_,_,rfl⟩:=hx;exact⟨rfl,(by simpa[Row.fits]using h:sz=1).symm⟩
 |big sh xs=>
  intro x hx;simp[Row.elems]at hx;obtain⟨y,_,rfl⟩:=hx
  obtain⟨h1,h2⟩:=ZlP sh y
  exact⟨h1,h2.trans (by simpa[Row.fits]using h)⟩
section
variable {C:Ctx}{h:Zab}{L:Lay}{w:World}
theorem HRel.rowAt(H:HRel C h L w){a i:Nat}{e sz:Nat}{r:Row}(hb:blk h a i=.row e sz r):(blk h a i).tag=some (sz,r.elems.length)∧0<sz∧L.size a i≤maxLen∧r.elems.length≤L.size a i∧(∀x∈r.elems,x.flat.length=sz):=by
 have:=H.blks a i
 rw[hb]at this
 obtain⟨h0,h1,h2,h3,_⟩:=this
 exact⟨by rw[hb];rfl,h0,h1,h2,h3⟩
theorem HRel.curAt(H:HRel C h L w){a i:Nat}{e sz:Nat}{r:Row}(hb:blk h a i=.row e sz r)(hn:L.size a i≠0):Plc h L a i∧
 ∃cur:Array Value,w.heap[L.loc a i]? =some (.cells cur e (0,0))∧cur.size=L.size a i*sz∧RelL w (Zaj C h L) h L (Zad r.elems) (cur.toList.take (r.elems.length*sz))∧
  (∀c∈cur.toList.take (r.elems.length*sz),c.oneCell'=true)∧∀(j:Nat) (v:Value),(cur.toList.take (r.elems.length*sz))[j]? =some v→w.cell? ((⟨L.loc a i,0,none⟩:Addr).add j)=some v:=by
 have:=H.blks a i
 rw[hb]at this
 obtain⟨_,_,_,_,hcur⟩:=this
 obtain⟨cur,h4,h5,h6,h7⟩:=hcur hn
 refine⟨Plc.of (by rw[hb];rfl) (.inr hn),cur,h4,h5,h6,h7,fun j v hj=>?_⟩
 rw[ZaL,Nat.zero_add,cell_of_row w _ j cur e (0,0) h4]
 rw[List.getElem?_take]at hj
 split at hj
 ·simpa using hj
 ·cases hj
theorem HRel.tagAt(H:HRel C h L w){a i:Nat}{e sz:Nat}{r:Row}(hb:blk h a i=.row e sz r):(blk h a i).tag=some (sz,r.elems.length):=(H.rowAt hb).1
theorem std_and{a b:Bool} :Zam a b=true↔a=true∧b=true:=by cases a<;>simp[Zam]
theorem ZbI(H:HRel C h L w){av:AV}{v:Value}(hr:Zao C h L w av v){r:Row}(hc:Zbv std h av=some (true,r)):
 ∃ad n c,v=.slice ad n c∧n=r.elems.length∧n≤c∧
  (∀a',ad=some a'→r.elems≠[]→∃cs:List Value,cs.length=(Zad r.elems).length∧(∀c∈cs,c.oneCell'=true)∧(∀(j:Nat) (v:Value),cs[j]? =some v→w.cell? (a'.add j)=some v)∧
    RelL w (Zaj C h L) h L (Zad r.elems) cs∧a'.block<w.heap.size)∧(ad=none→r.elems=[])∧(∃sz,∀x∈r.elems,x.flat.length=sz):=by
 unfold Zbv at hc
 split at hc
 ·cases hc
  cases hr with
  |nil _ a c he=>exact⟨a,0,c,rfl,by rw[he];rfl,Nat.zero_le _,fun a' _ hne=>absurd he hne,fun _=>he,0,by rw[he];simp⟩
  |list _ xs hx ad n cap sz cs hb hok hn hcap hsz hl h1 hcl hp hrr=>subst hx;exact⟨some ad,n,cap,rfl,hn,hcap,fun a' e _=>by cases e;exact⟨cs,hl,h1,hcl,⟨hl.symm,hrr⟩,hb⟩,(fun e=>by cases e),sz,hsz⟩
 ·cases hc
  cases hr
  exact⟨none,0,0,rfl,rfl,Nat.le_refl _,(fun a' e=>by cases e),fun _=>rfl,0,by simp[Row.elems]⟩
 ·rename_i a i
  split at hc
  ·rename_i e sz r' hb
   cases hc
   obtain⟨ht,h0,h1,h2,h3⟩:=H.rowAt hb
   cases hr with
   |row _ _ ad n c hn hl=>
    obtain⟨had,rfl,rfl⟩:=hl.2 _ ht
    have hz:r.elems≠[]→L.size a i≠0:=fun hne=>by have:=List.length_pos_iff.2 hne;omega
    refine⟨_,_,_,rfl,rfl,hn,fun a' e hne=>?_,fun e=>?_,sz,h3⟩
    ·subst e
     obtain⟨hpl,cur,h4,h5,h6,h7,h8⟩:=H.curAt hb (hz hne)
     have e:=had (hz hne)
     simp only[Option.some.injEq]at e
     subst e
     exact⟨_,h6.1.symm,h7,h8,h6,(H.live a i hpl).2⟩
    ·by_cases hne:r.elems=[]
     ·exact hne
     ·have:=had (hz hne);rw[e]at this;cases this
  ·cases hc
 ·rename_i a i k n cap
  split at hc
  ·rename_i e sz r' hb
   simp only[Option.some.injEq,Prod.mk.injEq]at hc
   obtain⟨hkn,rfl⟩:=hc
   have hkn:k+n≤r'.elems.length:=by rw[Row.len_std]at hkn;simpa[std]using hkn
   obtain⟨ht,h0,h1,h2,h3⟩:=H.rowAt hb
   have hlen:(r'.sub std k n).elems.length=n:=by rw[Row.sub_std];simp[sub3];omega
   have hsub:∀x∈(r'.sub std k n).elems,x.flat.length=sz:=fun x hx=>by
    rw[Row.sub_std]at hx;exact h3 x (List.mem_of_mem_drop (List.mem_of_mem_take hx))
   cases hr with
   |slc _ _ _ _ _ ad c hn hl=>
    refine⟨_,_,_,rfl,hlen.symm,hn,fun a' e hne=>?_,(fun e=>?_),sz,hsub⟩
    rotate_left
    ·rcases hl.2 _ ht with⟨_,rfl,_⟩ |⟨_,rfl⟩ |⟨h9,_⟩
     ·exact List.eq_nil_of_length_eq_zero hlen
     ·exact List.eq_nil_of_length_eq_zero (by omega)
     ·rw[e]at h9;cases h9
    subst e
    rcases hl.2 _ ht with⟨_,rfl,_⟩ |⟨_,rfl⟩ |⟨h9,h10,_⟩
    ·exact absurd (List.eq_nil_of_length_eq_zero hlen) hne
    ·exact absurd (List.eq_nil_of_length_eq_zero (by omega)) hne
    ·have:=List.length_pos_iff.2 hne
     obtain⟨hpl,cur,h4,h5,h6,h7,h8⟩:=H.curAt hb (by omega)
     simp only[Option.some.injEq]at h9
     subst h9
     have hfl:Zad (r'.sub std k n).elems=((Zad r'.elems).drop (k*sz)).take (n*sz):=by
      rw[Row.sub_std];unfold sub3
      rw[ZaA _ n (fun x hx=>h3 x (List.mem_of_mem_drop hx)),ZaI _ k h3]
     refine⟨((cur.toList.take (r'.elems.length*sz)).drop (k*sz)).take (n*sz),?_,fun c hc=>h7 c (List.mem_of_mem_drop (List.mem_of_mem_take hc)),fun j v hj=>?_,by rw[hfl];exact h6.part _ _,(H.live a i hpl).2⟩
     ·rw[hfl];simp only[List.length_take,List.length_drop,h6.1]
     ·rw[List.getElem?_take]at hj
      split at hj
      ·rw[List.getElem?_drop]at hj
       have:=h8 _ v hj
       rw[ZaL,Nat.zero_add]at this
       rw[ZaL];exact this
      ·cases hj
  ·cases hc
 ·rename_i a i k off n
  split at hc
  ·rename_i e sz r' hb
   split at hc
   ·rename_i x hx
    simp only[Option.some.injEq,Prod.mk.injEq,std_and]at hc
    obtain⟨⟨hk,hon,hsg⟩,hrr⟩:=hc
    have hk:k<r'.elems.length:=by rw[Row.len_std]at hk;simpa[std]using hk
    have hon:off+n≤x.elems.length:=by rw[Row.len_std]at hon;simpa[std]using hon
    have hre:r.elems=sub3 x.elems off n:=by rw[←Row.part_std hon,←hrr,Zdi]
    obtain⟨ht,h0,h1,h2,h3⟩:=H.rowAt hb
    obtain⟨hpl,cur,h4,h5,h6,h7,h8⟩:=H.curAt hb (by omega)
    have hget:=Row.get_std hk
    rw[hx]at hget
    have hxl:x.elems.length=sz:=by have:=h3 _ (List.mem_of_getElem? hget);simpa[AV.flat]using this
    have hlen:r.elems.length=n:=by rw[hre];simp[sub3];omega
    have hone:∀y∈r.elems,y.single=true:=fun y hy=>by rw[hre]at hy;exact Row.sing_std hsg y (List.mem_of_mem_drop (List.mem_of_mem_take hy))
    have hfl:=ZaE hone
    cases hr with
    |aslc _ _ _ _ _ g o c hn hl=>
     refine⟨_,_,_,rfl,hlen.symm,hn,fun a' e hne=>?_,(fun e=>by cases e),1,fun y hy=>by rw[Za2 (hone y hy)];rfl⟩
     cases e
     rcases hl.2 _ ht with rfl |⟨rfl,rfl⟩
     ·exact absurd (List.eq_nil_of_length_eq_zero hlen) hne
     ·have hsubE:∀j,j<sz→(Zad r'.elems)[k*sz+j]? =x.elems[j]?:=fun j hj=>by
       have:=ZcB h3 hget j hj;simpa[AV.flat]using this
      have hpart:Zad r.elems=((Zad r'.elems).drop (k*sz+off)).take n:=by
       rw[hfl,hre];unfold sub3
       apply List.ext_getElem?
       intro j
       rw[List.getElem?_take,List.getElem?_take]
       split
       ·rw[List.getElem?_drop,List.getElem?_drop,Nat.add_assoc,hsubE _ (by omega)]
       ·rfl
      refine⟨((cur.toList.take (r'.elems.length*sz)).drop (k*sz+off)).take n,?_,fun c hc=>h7 c (List.mem_of_mem_drop (List.mem_of_mem_take hc)),fun j v hj=>?_,by rw[hpart];exact h6.part _ _,(H.live a i hpl).2⟩
      ·rw[hpart];simp only[List.length_take,List.length_drop,h6.1]
      ·rw[List.getElem?_take]at hj
       split at hj
       ·rw[List.getElem?_drop]at hj
        have:=h8 _ v hj
        rw[ZaL,Nat.zero_add]at this
        rw[ZaL];exact this
       ·cases hj
   ·cases hc
  ·cases hc
 ·split at hc
  ·rename_i ad c
   simp only[Option.some.injEq,Prod.mk.injEq,true_and]at hc
   subst hc
   cases hr
   exact⟨some ad,0,c,rfl,rfl,Nat.zero_le _,fun a' _ hne=>absurd rfl hne,(fun e=>by cases e),0,fun x hx=>by cases hx⟩
  ·cases hc
 ·cases hc
end
end Go.Proofs.Ytbbemleognkdhaa
/- Soundness of the operations that turn no memory. No condition. -/
namespace Go.Proofs.Ytbbemleognkdhaa
open Go.RowKit (Below)
theorem Step.refl(w:World)(ok:Nat→Prop)(h:Zab)(L:Lay):Step w ok h L w ok h L:=⟨Nat.le_refl _,fun _ _ h=>⟨h,rfl⟩,fun _=>Nat.le_refl _,fun _ _ _ _ h=>⟨h,rfl,rfl⟩⟩
def Snd(C:Ctx)(h:Zab)(L:Lay)(w:World)(ev:Operand→Value)(o:Oper)(h':Zab)(v:AV):Prop:=
 ∃w' L' r,((execOp ev o).run C.P w=.ok (.value r) w'∨((execOp ev o).run C.P w=.ok .skip w'∧o.dst=none))∧Step w (Zaj C h L) h L w' (Zaj C h' L') h' L'∧HRel C h' L' w'∧(o.dst≠none→Zao C h' L' w' v r)
structure Rho (C:Ctx) (h:Zab) (L:Lay) (w:World) (ρ:Opd→AV) (ev:Operand→Value):Prop where
 rel:∀x y,ZaC x y=true→Zao C h L w (ρ x) (ev y)
 cst:∀v,ev (.const v)=v
 fnc:∀f,ev (.func f)=.func (.func f) #[] #[]
section
variable {C:Ctx}{o:Oper}{ρ:Opd→AV}{ev:Operand→Value}{h h':Zab}{w w':World}{L:Lay}{v:AV}
theorem Snd.pure(H:HRel C h L w){r:Value}(hr:(execOp ev o).run C.P w=.ok (.value r) w)(hv:Zao C h L w v r):Snd C h L w ev o h v:=
 ⟨w,L,r, .inl hr,Step.refl _ _ _ _,H,fun _=>hv⟩
theorem ZaR{k n}{r:Value}(hr:Zao C h L w (.int k n) r):r=.int k n:=by cases hr;rfl
theorem ZcX{b}{r:Value}(hr:Zao C h L w (.bool b) r):r=.bool b:=by cases hr;rfl
theorem ZgS{b}{r:Value}(hr:Zao C h L w (.str b) r):r=.string ⟨b.toArray⟩:=by cases hr;rfl
theorem Zcf{k b}{r:Value}(hr:Zao C h L w (.flt k b) r):r=.float k b:=by cases hr;rfl
theorem Zrd{r:Value}(hr:Zao C h L w .und r):r=undef:=by cases hr;rfl
theorem Zb2{k:IntKind}{n:Int}(h1:std.inR k n=true):k.wrap n=n:=by
 obtain⟨h1,h2⟩:k.min≤n∧n≤k.max:=of_decide_eq_true h1
 cases k<;>simp[IntKind.min,IntKind.max,IntKind.signed,IntKind.bits]at h1 h2<;>simp only[IntKind.wrap,IntKind.bits,IntKind.signed]<;>simp<;>first |omega |(split<;>omega)
variable {P:Program}
theorem Ze2(op:BinOp)(t:TypeId)(x y:Operand)(k k':IntKind)(a b:Int)(w:World):(eqGuard op t x y (.int k a) (.int k' b)).run P w=.ok () w:=by
 unfold eqGuard;cases op<;>rfl
theorem ZhS(op:BinOp)(t:TypeId)(x y:Operand)(a b:ByteArray)(w:World):(eqGuard op t x y (.string a) (.string b)).run P w=.ok () w:=by
 unfold eqGuard;cases op<;>rfl
theorem Zia(op:BinOp)(t:TypeId)(x y:Operand)(k k':FloatKind)(a b:Nat)(w:World):(eqGuard op t x y (.float k a) (.float k' b)).run P w=.ok () w:=by
 unfold eqGuard;cases op<;>rfl
theorem Zg6(op:BinOp)(t:TypeId)(x y:Operand)(a b:Bool)(w:World):(eqGuard op t x y (.bool a) (.bool b)).run P w=.ok () w:=by
 unfold eqGuard;cases op<;>rfl
theorem Zdd(op:BinOp)(t:TypeId)(x y:Operand)(a b:Option Addr)(n c n' c':Nat)(w:World):(eqGuard op t x y (.slice a n c) (.slice b n' c')).run P w=.ok () w:=by
 unfold eqGuard;cases op<;>rfl
theorem Zmf{a b:Bool}(h:Zam a b=true):a=true∧b=true:=std_and.1 h
theorem Zkh{op:BinOp}{k:IntKind}{a b:Int}(hv:ZuZ std op k a b=some (true,v))(t:TypeId)(w:World):
 ∃r,(Go.binOp op t (.int k a) (.int k b)).run P w=.ok r w∧∀w ok h L,Rel w ok h L v r:=by
 cases op<;>simp only[ZuZ,Option.some.injEq,Prod.mk.injEq,reduceCtorEq]at hv
 case add=>obtain⟨h1,rfl⟩:=hv;exact⟨.int k (k.wrap (a+b)),by simp[Go.binOp,Op.intArith],fun _ _ _ _=>by rw[show k.wrap (a+b)=a+b from Zb2 h1];exact .int _ _⟩
 case sub=>obtain⟨h1,rfl⟩:=hv;exact⟨.int k (k.wrap (a-b)),by simp[Go.binOp,Op.intArith],fun _ _ _ _=>by rw[show k.wrap (a-b)=a-b from Zb2 h1];exact .int _ _⟩
 case mul=>obtain⟨h1,rfl⟩:=hv;exact⟨.int k (k.wrap (a*b)),by simp[Go.binOp,Op.intArith],fun _ _ _ _=>by rw[show k.wrap (a*b)=a*b from Zb2 h1];exact .int _ _⟩
 case quo=>
  obtain⟨h1,rfl⟩:=hv
  obtain⟨h0,h1⟩:=Zmf h1
  have h0:b≠0:=by simpa[std]using h0
  exact⟨_,by simp[Go.binOp,Op.intDiv,h0];rfl,fun _ _ _ _=>by rw[show k.wrap (a.tdiv b)=a.tdiv b from Zb2 h1];exact .int _ _⟩
 case rem=>
  obtain⟨h0,rfl⟩:=hv
  have h0:b≠0:=by simpa[std]using h0
  exact⟨_,by simp[Go.binOp,Op.intDiv,h0];rfl,fun _ _ _ _=>.int _ _⟩
 case and=>obtain⟨_,rfl⟩:=hv;exact⟨_,by simp[Go.binOp,Op.intBits];rfl,fun _ _ _ _=>.int _ _⟩
 case or=>obtain⟨_,rfl⟩:=hv;exact⟨_,by simp[Go.binOp,Op.intBits];rfl,fun _ _ _ _=>.int _ _⟩
 case xor=>obtain⟨_,rfl⟩:=hv;exact⟨_,by simp[Go.binOp,Op.intBits];rfl,fun _ _ _ _=>.int _ _⟩
 case andNot=>obtain⟨_,rfl⟩:=hv;exact⟨.int k (std.bits .andNot k a b),by simp only[Go.binOp,Op.intBits,ne_eq,not_true_eq_false,if_false];rfl,fun _ _ _ _=>.int _ _⟩
 case eql=>obtain⟨_,rfl⟩:=hv;exact⟨.bool (decide (a=b)),by simp[Go.binOp,Op.intCmp];rfl,fun _ _ _ _=>.bool _⟩
 case neq=>obtain⟨_,rfl⟩:=hv;exact⟨.bool (!decide (a=b)),by simp[Go.binOp,Op.intCmp];rfl,fun _ _ _ _=>.bool _⟩
 case lss=>obtain⟨_,rfl⟩:=hv;exact⟨.bool (decide (a<b)),by simp[Go.binOp,Op.intCmp],fun _ _ _ _=>.bool _⟩
 case leq=>obtain⟨_,rfl⟩:=hv;exact⟨.bool (decide (a≤b)),by simp[Go.binOp,Op.intCmp],fun _ _ _ _=>.bool _⟩
 case gtr=>obtain⟨_,rfl⟩:=hv;exact⟨.bool (decide (b<a)),by simp[Go.binOp,Op.intCmp],fun _ _ _ _=>.bool _⟩
 case geq=>obtain⟨_,rfl⟩:=hv;exact⟨.bool (decide (b≤a)),by simp[Go.binOp,Op.intCmp],fun _ _ _ _=>.bool _⟩
theorem ZjY{op:BinOp}{x y:List UInt8}(hv:ZtF std op x y=some (true,v))(t:TypeId)(w:World):
 ∃r,(Go.binOp op t (.string ⟨x.toArray⟩) (.string ⟨y.toArray⟩)).run P w=.ok r w∧∀w ok h L,Rel w ok h L v r:=by
 have hb:∀op,Go.binOp op t (.string ⟨x.toArray⟩) (.string ⟨y.toArray⟩)=Op.stringOp op ⟨x.toArray⟩ ⟨y.toArray⟩:=fun op=>by cases op<;>rfl
 rw[hb]
 cases op<;>simp only[ZtF,Option.some.injEq,Prod.mk.injEq,reduceCtorEq]at hv
 case add=>
  obtain⟨h1,rfl⟩:=hv
  have h1:x.length+y.length≤4294967296:=by simpa[std]using h1
  refine⟨.string ⟨(x++y).toArray⟩,?_,fun _ _ _ _=>.str _⟩
  have h1:¬((((⟨x.toArray⟩:ByteArray).size+(⟨y.toArray⟩:ByteArray).size:Nat):Int)>IntKind.i64.max):=by
   have hm:IntKind.i64.max=9223372036854775807:=by decide
   rw[hm]
   have e1:(⟨x.toArray⟩:ByteArray).size=x.length:=rfl
   have e2:(⟨y.toArray⟩:ByteArray).size=y.length:=rfl
   rw[e1,e2];omega
  have h2:(⟨x.toArray⟩++⟨y.toArray⟩:ByteArray)=⟨(x++y).toArray⟩:=by
   apply ByteArray.ext;simp
  simp only[Op.stringOp,if_neg h1,h2,Sem.run_pure]
 case eql=>obtain⟨_,rfl⟩:=hv;exact⟨.bool (x==y),by simp[Op.stringOp],fun _ _ _ _=>.bool _⟩
 case neq=>obtain⟨_,rfl⟩:=hv;exact⟨.bool (!(x==y)),by simp[Op.stringOp],fun _ _ _ _=>.bool _⟩
 case lss=>obtain⟨_,rfl⟩:=hv;exact⟨.bool (Op.bytesLess x y),by simp[Op.stringOp],fun _ _ _ _=>.bool _⟩
theorem Zki{op:BinOp}{k:FloatKind}{x y:Nat}(hv:ZuJ std op k x y=some (true,v))(t:TypeId)(w:World):
 ∃r,(Go.binOp op t (.float k x) (.float k y)).run P w=.ok r w∧∀w ok h L,Rel w ok h L v r:=by
 cases op<;>simp only[ZuJ,Option.some.injEq,Prod.mk.injEq,reduceCtorEq]at hv
 case add=>
  obtain⟨h1,rfl⟩:=hv
  obtain⟨r,hr⟩:=Option.isSome_iff_exists.1 h1
  have hr':k.format.add x y=some r:=hr
  exact⟨.float k r,by simp[Go.binOp,Op.floatArith,hr'],fun _ _ _ _=>by rw[hr];exact .flt _ _⟩
 case sub=>
  obtain⟨h1,rfl⟩:=hv
  obtain⟨r,hr⟩:=Option.isSome_iff_exists.1 h1
  have hr':k.format.sub x y=some r:=hr
  exact⟨.float k r,by simp[Go.binOp,Op.floatArith,hr'],fun _ _ _ _=>by rw[hr];exact .flt _ _⟩
 case eql=>obtain⟨_,rfl⟩:=hv;exact⟨_,by simp[Go.binOp,Op.floatCmp];rfl,fun _ _ _ _=>.bool _⟩
 case neq=>obtain⟨_,rfl⟩:=hv;exact⟨_,by simp[Go.binOp,Op.floatCmp];rfl,fun _ _ _ _=>.bool _⟩
 case lss=>obtain⟨_,rfl⟩:=hv;exact⟨_,by simp[Go.binOp,Op.floatCmp];rfl,fun _ _ _ _=>.bool _⟩
 case gtr=>obtain⟨_,rfl⟩:=hv;exact⟨_,by simp[Go.binOp,Op.floatCmp];rfl,fun _ _ _ _=>.bool _⟩
theorem Zlu(H:HRel C h L w){op:BinOp}{t ty:TypeId}{x y:AV}{x' y':Operand}(ho:o.op=.binOp op t x' y' ty)(rx:Zao C h L w x (ev x'))(ry:Zao C h L w y (ev y'))
 (hv:ZsL std op x y=some (true,v)):Snd C h L w ev o h v:=by
 unfold ZsL at hv
 split at hv
 ·rename_i k a k' b
  have key:∃r,(Go.binOp op t (.int k a) (.int k' b)).run C.P w=.ok r w∧∀w ok h L,Rel w ok h L v r:=by
   split at hv
   ·simp only[Option.some.injEq,Prod.mk.injEq,std_and]at hv
    obtain⟨⟨⟨h1,h2⟩,h3⟩,rfl⟩:=hv
    have h1:0≤b:=by simpa[std]using h1
    have h2:b.toNat<k.bits:=by simpa[std]using h2
    refine⟨.int k (k.wrap (a*2^b.toNat)),?_,fun _ _ _ _=>by rw[show k.wrap (a*2^b.toNat)=a*2^b.toNat from Zb2 h3];exact .int _ _⟩
    simp[Go.binOp,Op.shift,Int.not_lt.2 h1,Nat.min_eq_left (Nat.le_of_lt h2)]
   ·simp only[Option.some.injEq,Prod.mk.injEq,std_and]at hv
    obtain⟨⟨h1,h2⟩,rfl⟩:=hv
    have h1:0≤b:=by simpa[std]using h1
    have h2:b.toNat<k.bits:=by simpa[std]using h2
    refine⟨.int k (a.fdiv (2^b.toNat)),?_,fun _ _ _ _=>.int _ _⟩
    simp[Go.binOp,Op.shift,Int.not_lt.2 h1,Nat.min_eq_left (Nat.le_of_lt h2)]
   ·split at hv
    ·rename_i hk
     have:=of_decide_eq_true hk;subst this
     exact Zkh hv t w
    ·cases hv
  obtain⟨r,h1,h3⟩:=key
  refine .pure H (r:=r) ?_ (h3 _ _ _ _)
  simp[execOp,ho,ZaR rx,ZaR ry,Ze2,h1]
 ·rename_i p q
  obtain⟨r,h1,h3⟩:=ZjY hv t w (P:=C.P)
  refine .pure H (r:=r) ?_ (h3 _ _ _ _)
  simp[execOp,ho,ZgS rx,ZgS ry,ZhS,h1]
 ·split at hv
  ·rename_i hk
   have:=of_decide_eq_true hk;subst this
   obtain⟨r,h1,h3⟩:=Zki hv t w (P:=C.P)
   refine .pure H (r:=r) ?_ (h3 _ _ _ _)
   simp[execOp,ho,Zcf rx,Zcf ry,Zia,h1]
  ·cases hv
 ·cases hv
theorem Zkc(H:HRel C h L w){op:BinOp}{t ty:TypeId}{x y:AV}{x' y':Operand}(ho:o.op=.binOp op t x' y' ty)(rx:Zao C h L w x (ev x'))(ry:Zao C h L w y (ev y'))
 (hv:Zp0 std op x y=some (true,v)):Snd C h L w ev o h v:=by
 unfold Zp0 at hv
 split at hv
 ·rename_i k a k' b
  split at hv
  ·rename_i hk
   have:=of_decide_eq_true hk;subst this
   have key:∃r,(Go.binOp op t (.int k a) (.int k b)).run C.P w=.ok r w∧∀w ok h L,Rel w ok h L v r:=by
    split at hv
    ·simp only[Option.some.injEq,Prod.mk.injEq,true_and]at hv
     exact⟨.int k (k.wrap (a+b)),by simp[Go.binOp,Op.intArith],fun _ _ _ _=>by rw[←hv];exact .int _ _⟩
    ·simp only[Option.some.injEq,Prod.mk.injEq,true_and]at hv
     exact⟨.int k (k.wrap (a-b)),by simp[Go.binOp,Op.intArith],fun _ _ _ _=>by rw[←hv];exact .int _ _⟩
    ·simp only[Option.some.injEq,Prod.mk.injEq,true_and]at hv
     exact⟨.int k (k.wrap (a*b)),by simp[Go.binOp,Op.intArith],fun _ _ _ _=>by rw[←hv];exact .int _ _⟩
    ·cases hv
   obtain⟨r,h1,h3⟩:=key
   refine .pure H (r:=r) ?_ (h3 _ _ _ _)
   simp[execOp,ho,ZaR rx,ZaR ry,Ze2,h1]
  ·cases hv
 ·cases hv
theorem Zl3(H:HRel C h L w){ne:Bool}{op:BinOp}{t ty:TypeId}{a b:Bool}{x' y':Operand}(ho:o.op=.binOp op t x' y' ty)(hop:op=if ne then .neq else .eql)
 (ht:C.P.underlying t=some .bool) (rx:Zao C h L w (.bool a) (ev x')) (ry:Zao C h L w (.bool b) (ev y')):
 Snd C h L w ev o h (.bool (eqB std ne a b)):=by
 have e0:∀d w,(Op.equalIn (d+1) t (.bool a) (.bool b)).run C.P w=.ok (a==b) w:=fun d w=>by simp[Op.equalIn,run_underlying ht]
 have e:∀w,(Op.equal t (.bool a) (.bool b)).run C.P w=.ok (a==b) w:=fun w=>e0 9999 w
 refine .pure H (r:=.bool (if ne then !(a==b)else a==b)) ?_ (by cases ne<;>exact .bool _)
 subst hop
 cases ne<;>simp[execOp,ho,ZcX rx,ZcX ry,Zg6,Go.binOp,e]
theorem ZaU{t:TypeId}{i:TypeInfo}(hi:P.info? t=some i)(w:World):(sizeOf t).run P w=.ok i.size w:=by simp[sizeOf,typeInfo,hi]
theorem Zai{t:TypeId}{d:TypeDesc}(ht:P.underlying t=some d)(w:World):(underlying t).run P w=.ok d w:=run_underlying ht w
theorem Zdn{t:TypeId}{d:TypeDesc}{ag:Bool}(ht:P.underlying t=some d)(hd:Zay d=ag)(w:World):(isAgg t).run P w=.ok ag w:=by
 unfold isAgg
 rw[Sem.run_bind,run_underlying ht w]
 cases d<;>simp_all[Zay]
theorem ZbJ{ad:Addr}{cs:List Value}(hc:∀(j:Nat) (v:Value),cs[j]? =some v→w.cell? (ad.add j)=some v){t:TypeId}{d:TypeDesc}{i:TypeInfo}{ag:Bool}{n off:Nat}
 (hd:P.underlying t=some d) (hag:Zay d=ag) (hi:P.info? t=some i) (hn:i.size=n) (hoff:off+n≤cs.length) (hne:ag=false→n=1):
 (loadVar t (ad.add off)).run P w=.ok (if ag then .agg ((cs.drop off).take n).toArray else cs.getD off undef) w:=by
 cases ag with
 |true=>
  have hl:=run_loadCells_list (P:=P) w (ad.add off) ((cs.drop off).take n) (fun j v hv=>by
   rw[ZdF]
   refine hc _ v ?_
   rw[List.getElem?_take]at hv
   split at hv
   ·simpa using hv
   ·cases hv)
  have hlen:((cs.drop off).take n).length=n:=by simp;omega
  rw[hlen]at hl
  simp[loadVar,Zdn hd hag,sizeOf,typeInfo,hi,hn,hl]
 |false=>
  have h1:=hne rfl
  subst h1
  have hv:cs[off]? =some (cs[off]'(by omega)):=List.getElem?_eq_getElem (by omega)
  have:=hc off _ hv
  simp only[loadVar,Sem.run_bind,Zdn hd hag,Result.andThen_ok,Bool.false_eq_true,if_false,run_load,this]
  simp[List.getD_eq_getElem?_getD,hv]
theorem Zff{r:Row}{x:Value}(hr:Zao C h L w (.agg r) x):∃vs:Array Value,x=.agg vs∧RelL w (Zaj C h L) h L r.elems vs.toList∧∀c∈vs,c.oneCell'=true:=by
 cases hr with |agg _ xs hx vs hl h1 hh=>subst hx;exact⟨vs,rfl,⟨by simpa using hl,fun j u v hu hv=>hh j u v hu (by simpa using hv)⟩,h1⟩
theorem Zgn{x:AV}{off:Nat}{r:Value}(hr:Zao C h L w (.eptr x off) r):∃(ad:Addr) (cs:List Value),r=.pointer (some (ad.add off))∧ad.spot=none∧ad.block<w.heap.size∧Zaj C h L ad.block∧cs.length=x.flat.length∧
 (∀v∈cs,v.oneCell'=true)∧(∀(j:Nat) (v:Value),cs[j]? =some v→w.cell? (ad.add j)=some v)∧AV.pureL x.flat=true∧RelL w (Zaj C h L) h L x.flat cs:=by
 cases hr with
 |eptr _ _ ad cs hs hb hok hl h1 hc hp hrr=>exact⟨ad,cs,rfl,hs,hb,hok,hl,h1,hc,hp,hl.symm,hrr⟩
theorem ZhL{ag:Bool}{n off:Nat}{u:AV}{cs:List Value}(hr:RelL w (Zaj C h L) h L u.flat cs)(h1:∀v∈cs,v.oneCell'=true)(hv:ZqT std ag n off u=some (true,v))(hne:ag=false→n=1):
 off+n≤cs.length∧Zao C h L w v (if ag then .agg ((cs.drop off).take n).toArray else cs.getD off undef):=by
 have one:off<u.flat.length→Zao C h L w (u.flat.getD off .top) (cs.getD off undef):=fun hlt=>by
  refine hr.2 off _ _ (by rw[List.getD_eq_getElem?_getD,List.getElem?_eq_getElem hlt];rfl) (by rw[List.getD_eq_getElem?_getD,List.getElem?_eq_getElem (by rw[←hr.1];exact hlt)];rfl)
 have agr:∀r:Row,r.elems=(u.flat.drop off).take n→off+n≤u.flat.length→Zao C h L w (.agg r) (.agg ((cs.drop off).take n).toArray):=fun r he hle=>by
  have hp:=hr.part off n
  rw[←he]at hp
  exact .agg r r.elems rfl _ (by simpa using hp.1) (fun c hc=>h1 c (List.mem_of_mem_drop (List.mem_of_mem_take (by simpa using hc)))) (fun j u v hu hv=>hp.2 j u v hu (by simpa using hv))
 unfold ZqT at hv
 split at hv
 ·rename_i x
  simp only[Option.some.injEq,Prod.mk.injEq]at hv
  obtain⟨hle,rfl⟩:=hv
  have hle:off+n≤x.elems.length:=by rw[Row.len_std]at hle;simpa[std]using hle
  exact⟨by rw[←hr.1];exact hle,agr _ (by rw[Row.sub_std];rfl) hle⟩
 ·rename_i hu
  simp only[Option.some.injEq,Prod.mk.injEq,std_and]at hv
  obtain⟨⟨e1,e2⟩,rfl⟩:=hv
  have e1:off=0:=by simpa[std]using e1
  have e2:n=1:=by simpa[std]using e2
  subst e1;subst e2
  have hf:u.flat=[u]:=Za2 (by cases u<;>first |rfl |exact(hu _ rfl).elim)
  exact⟨by rw[←hr.1,hf];simp,agr _ (by rw[hf];rfl) (by rw[hf];simp)⟩
 ·rename_i x
  simp only[Option.some.injEq,Prod.mk.injEq]at hv
  obtain⟨hle,rfl⟩:=hv
  have hle:off<x.elems.length:=by rw[Row.len_std]at hle;simpa[std]using hle
  have hn:=hne rfl
  subst hn
  have h2:=one hle
  rw[show (AV.agg x).flat=x.elems from rfl,List.getD_eq_getElem?_getD,Row.get_std hle]at h2
  exact⟨by rw[←hr.1];exact hle,h2⟩
 ·rename_i hu
  simp only[Option.some.injEq,Prod.mk.injEq]at hv
  obtain⟨e1,rfl⟩:=hv
  have e1:off=0:=by simpa[std]using e1
  subst e1
  have hn:=hne rfl
  subst hn
  have hf:u.flat=[u]:=Za2 (by cases u<;>first |rfl |exact(hu _ rfl).elim)
  have h2:=one (by rw[hf];simp)
  rw[hf]at h2
  exact⟨by rw[←hr.1,hf];simp,h2⟩
theorem Zji(H:HRel C h L w){t:TypeId}{d:TypeDesc}{i:TypeInfo}{ag:Bool}{n:Nat}{p:AV}{pv:Value}(rp:Zao C h L w p pv)
 (hd:C.P.underlying t=some d) (hag:Zay d=ag) (hi:C.P.info? t=some i) (hn:i.size=n) (hne:ag=false→n=1)
 (hv:Zh2 std h ag n p=some (true,v)):∃r ad,pv=.pointer (some ad)∧(loadVar t ad).run C.P w=.ok r w∧Zao C h L w v r:=by
 unfold Zh2 at hv
 split at hv
 ·rename_i a j k off
  split at hv
  ·rename_i e sz r hb
   obtain⟨ht,h0,h1,h2,h3⟩:=H.rowAt hb
   cases rp with
   |ptr _ _ _ _ g oo hl=>
    obtain⟨rfl,rfl⟩:=hl.2 _ ht
    split at hv
    ·rename_i kd m hget
     simp only[Option.some.injEq,Prod.mk.injEq,std_and]at hv
     obtain⟨⟨⟨e1,e2⟩,e3,e5,e4⟩,hrv⟩:=hv
     have e5:0<n:=by simpa[std]using e5
     have e1:sz=1:=by simpa[std]using e1
     have e2:off=0:=by simpa[std]using e2
     have e3:k+n≤r.elems.length:=by rw[Row.len_std]at e3;simpa[std]using e3
     subst e1;subst e2
     obtain⟨hpl,cur,h4,h5,h6,h7,h8⟩:=H.curAt hb (by omega)
     have hone:=Row.sing_std e4
     have hfl:=ZaE hone
     have hcs:=ZbJ (P:=C.P) (w:=w) (ad:=⟨L.loc a j,0,none⟩) h8 hd hag hi hn (off:=k) (by rw[←h6.1,hfl];exact e3) hne
     rw[hag]at*
     have hp:=(h6.part k n)
     rw[hfl]at hp
     refine⟨.agg (((cur.toList.take (r.elems.length*1)).drop k).take n).toArray,_,rfl,?_,?_⟩
     ·rw[ZaL,Nat.zero_add]at hcs
      simpa using hcs
     ·have he:∃r2:Row,v=.agg r2∧r2.elems=sub3 r.elems k n:=by
       rw[←hrv]
       split
       ·rename_i hn1
        have hn1:n=1:=by simpa using hn1
        subst hn1
        refine⟨_,rfl,?_⟩
        have hg:=Row.get_std (r:=r) (j:=k) (by omega)
        rw[hget]at hg
        unfold sub3
        rw[List.drop_eq_getElem_cons (by omega)]
        rw[List.getElem?_eq_getElem (by omega)]at hg
        simp only[Option.some.injEq]at hg
        rw[hg];rfl
       ·refine⟨_,rfl,?_⟩
        rw[Zdi];exact Row.part_std e3
      obtain⟨r2,rfl,he⟩:=he
      exact .agg r2 r2.elems rfl _ (by rw[he];simpa[sub3]using hp.1) (fun c hc=>h7 c (List.mem_of_mem_drop (List.mem_of_mem_take (by simpa using hc)))) (fun j u v hu hv=>hp.2 j u v (by rw[he]at hu;exact hu) (by simpa using hv))
    ·split at hv
     ·rename_i b v' hc
      simp only[Option.some.injEq,Prod.mk.injEq,std_and]at hv
      obtain⟨⟨hk,rfl⟩,rfl⟩:=hv
      have hk:k<r.elems.length:=by rw[Row.len_std]at hk;simpa[std]using hk
      obtain⟨hpl,cur,h4,h5,h6,h7,h8⟩:=H.curAt hb (by omega)
      have hget:=Row.get_std hk
      have hulen:=h3 _ (List.mem_of_getElem? hget)
      have hge:k*sz+sz≤r.elems.length*sz:=by
       have:=Nat.mul_le_mul_right sz (Nat.succ_le_of_lt hk)
       rwa[Nat.succ_mul]at this
      have hrel:RelL w (Zaj C h L) h L (r.get std k).flat (((cur.toList.take (r.elems.length*sz)).drop (k*sz)).take sz):=by
       have hl6:=h6.1
       rw[Zah h3]at hl6
       refine⟨by rw[hulen];simp only[List.length_take,List.length_drop]at hl6 ⊢;omega,fun j u x hu hx=>?_⟩
       rw[List.getElem?_take]at hx
       split at hx
       ·rename_i hj
        rw[List.getElem?_drop]at hx
        exact h6.2 (k*sz+j) u x (by rw[ZcB h3 hget j hj];exact hu) hx
       ·cases hx
      obtain⟨c1,c2⟩:=ZhL hrel (fun c hc=>h7 c (List.mem_of_mem_drop (List.mem_of_mem_take hc))) hc hne
      have hcs:=ZbJ (P:=C.P) (w:=w) (ad:=⟨L.loc a j,k*sz,none⟩) (cs:=((cur.toList.take (r.elems.length*sz)).drop (k*sz)).take sz) (fun j v hj=>by
       rw[List.getElem?_take]at hj
       split at hj
       ·rw[List.getElem?_drop]at hj
        have:=h8 _ v hj
        rw[ZaL,Nat.zero_add]at this
        rw[ZaL];exact this
       ·cases hj) hd hag hi hn (off:=off) c1 hne
      rw[ZaL]at hcs
      exact⟨_,_,rfl,hcs,c2⟩
     ·cases hv
  ·cases hv
 ·rename_i u off
  obtain⟨ad,cs,rfl,hsp,hb,hok,hl,h1,hc,hp,hrr⟩:=Zgn rp
  obtain⟨c1,c2⟩:=ZhL hrr h1 hv hne
  exact⟨_,_,rfl,ZbJ (P:=C.P) hc hd hag hi hn c1 hne,c2⟩
 ·cases hv
theorem Zdm{C:Ctx}{h:Zab}{L L':Lay}{g:Nat}(ho:Zaj C h L g):Zaj C [] L' g:=by
 rcases ho with ho |⟨h1,_⟩
 ·exact .inl ho
 ·exact .inr ⟨h1,fun a i ht=>absurd rfl ht.tag⟩
def nzV:AV→Bool
 | .row a _=>!Nat.beq a 0
 | .slc a _ _ _ _=>!Nat.beq a 0
 | .aslc a _ _ _ _=>!Nat.beq a 0
 | .ptr a _ _ _=>!Nat.beq a 0
 |_=>true
theorem Zpr{a:Nat}(h:(!Nat.beq a 0)=true):a≠0:=by rintro rfl;cases h
theorem HRel.far(H:HRel C h L w){a i:Nat}(ht:Plc h L a i)(ha:a≠0):C.n0≤L.loc a i:=by
 rcases H.home a i ht with h1 |⟨h1,_⟩
 ·exact h1
 ·exact absurd h1 ha
theorem Ze4(H:HRel C h L w){av:AV}{v:Value}(hr:Zao C h L w av v){r:Row}(hc:Zbv std h av=some (true,r))(hz:nzV av=true):
 ∀a' n c,v=.slice (some a') n c→r.elems≠[]→Zaj C [] L a'.block:=by
 unfold Zbv at hc
 have tr:∀ {a i e sz:Nat} {q:Row},blk h a i=.row e sz q→a≠0→(L.size a i≠0→Zaj C [] L (L.loc a i))∧(blk h a i).tag=some (sz,q.elems.length)∧q.elems.length≤L.size a i:=fun hb ha=>
  ⟨fun hn=>.inr ⟨H.far (Plc.of (by rw[hb];rfl) (.inr hn)) ha,fun _ _ ht=>absurd rfl ht.tag⟩,by rw[hb];rfl,(H.rowAt hb).2.2.2.1⟩
 split at hc
 ·cases hc
  cases hr with
  |nil _ a c he=>exact fun a' n c _ hne=>absurd he hne
  |list _ xs hx ad n cap sz cs hb hok hn hcap hsz hl h1 hcl hp hrr=>exact fun a' n c e _=>by cases e;exact Zdm hok
 ·cases hc
  exact fun a' n c _ hne=>absurd rfl hne
 ·rename_i a i
  split at hc
  ·rename_i e sz r' hb
   cases hc
   obtain⟨t1,t2,t3⟩:=tr hb (Zpr hz)
   cases hr with
   |row _ _ ad n c hn hl=>
    obtain⟨had,rfl,rfl⟩:=hl.2 _ t2
    exact fun a' n c e hne=>by
     have:=List.length_pos_iff.2 hne
     have hz:L.size a i≠0:=by omega
     cases e
     have e:=had hz
     simp only[Option.some.injEq]at e
     rw[e];exact t1 hz
  ·cases hc
 ·rename_i a i k n cap
  split at hc
  ·rename_i e sz r' hb
   simp only[Option.some.injEq,Prod.mk.injEq]at hc
   obtain⟨hkn,rfl⟩:=hc
   have hkn:k+n≤r'.elems.length:=by rw[Row.len_std]at hkn;simpa[std]using hkn
   obtain⟨t1,t2,t3⟩:=tr hb (Zpr hz)
   have hlen:(r'.sub std k n).elems.length=n:=by rw[Row.sub_std];simp[sub3];omega
   cases hr with
   |slc _ _ _ _ _ ad c hn hl=>
    rcases hl.2 _ t2 with⟨_,rfl,_⟩ |⟨_,rfl⟩ |⟨h9,h10,_⟩
    ·exact fun a' n c _ hne=>absurd (List.eq_nil_of_length_eq_zero hlen) hne
    ·exact fun a' n c _ hne=>absurd (List.eq_nil_of_length_eq_zero (by omega)) hne
    ·exact fun a' n c e hne=>by
      have:=List.length_pos_iff.2 hne
      have hz:L.size a i≠0:=by omega
      cases e
      simp only[Option.some.injEq]at h9
      rw[h9];exact t1 hz
  ·cases hc
 ·rename_i a i k off n
  split at hc
  ·rename_i e sz r' hb
   split at hc
   ·rename_i x hx
    simp only[Option.some.injEq,Prod.mk.injEq,std_and]at hc
    obtain⟨⟨hk,hon,hsg⟩,hrr⟩:=hc
    have hon:off+n≤x.elems.length:=by rw[Row.len_std]at hon;simpa[std]using hon
    have hre:r.elems=sub3 x.elems off n:=by rw[←Row.part_std hon,←hrr,Zdi]
    obtain⟨t1,t2,t3⟩:=tr hb (Zpr hz)
    have hlen:r.elems.length=n:=by rw[hre];simp[sub3];omega
    cases hr with
    |aslc _ _ _ _ _ g o c hn hl=>
     rcases hl.2 _ t2 with rfl |⟨rfl,rfl⟩
     ·exact fun a' n c _ hne=>absurd (List.eq_nil_of_length_eq_zero hlen) hne
     ·exact fun a' n c e _=>by
       have hk:k<r'.elems.length:=by rw[Row.len_std]at hk;simpa[std]using hk
       cases e;exact t1 (by omega)
   ·cases hc
  ·cases hc
 ·split at hc
  ·cases hc
   exact fun a' n c _ hne=>absurd rfl hne
  ·cases hc
 ·cases hc
end
end Go.Proofs.Ytbbemleognkdhaa
/- Soundness of addresses, parts, slices of slices, tuples, closures. No condition. -/
namespace Go.Proofs.Ytbbemleognkdhaa
open Go.RowKit (Below)
section
variable {C:Ctx}{o:Oper}{ρ:Opd→AV}{ev:Operand→Value}{h:Zab}{w:World}{L:Lay}{v:AV}{P:Program}
theorem ZhH(H:HRel C h L w){t:TypeId}{fs:Array Field}{f:Nat}{fd:Field}{i:TypeInfo}{off:Nat}{p:AV}{p':Operand}(ho:o.op=.fieldAddr t p' f)(rp:Zao C h L w p (ev p'))
 (ht:C.P.underlying t=some (.struct fs)) (hf:fs[f]? =some fd) (hoff:fd.offset=off) (hi:C.P.info? fd.type=some i) (hz:i.size≠0)
 (hv:ZlS std off p=some (true,v)):Snd C h L w ev o h v:=by
 have run:∀ad:Addr,ev p'=.pointer (some ad)→(execOp ev o).run C.P w=.ok (.value (.pointer (some (ad.add off)))) w:=fun ad he=>by
  simp[execOp,ho,Instr.fieldAt,Zai ht,hf,he,Instr.sureAddr,fieldPlace,ZaU hi,hz,hoff]
 generalize hpv:ev p'=pv at*
 unfold ZlS at hv
 split at hv
 ·rename_i a j k q
  simp only[Option.some.injEq,Prod.mk.injEq,true_and]at hv
  subst hv
  cases rp with
  |ptr _ _ _ _ g oo hl=>exact .pure H (run _ rfl) (by rw[ZaL];exact .ptr _ _ _ _ _ _ ⟨hl.1,fun sz hsz=>⟨(hl.2 sz hsz).1,by have:=(hl.2 sz hsz).2;omega⟩⟩)
 ·rename_i u q
  simp only[Option.some.injEq,Prod.mk.injEq,true_and]at hv
  subst hv
  obtain⟨ad,cs,rfl,hsp,hb,hok,hl,h1,hc,hp,hr⟩:=Zgn rp
  exact .pure H (run _ rfl) (by rw[ZdF];exact .eptr u _ ad cs hsp hb hok hl h1 hc hp hr.2)
 ·cases hv
theorem Zez{ad:Addr}{v:Value}(h:w.cell? ad=some v):ad.spot=none:=by
 unfold World.cell? at h
 split at h
 ·split at h
  ·cases h
  ·rename_i hh;simpa using hh
 ·cases h
theorem ZgJ{r:Row}{x:Value}(hr:Zao C h L w (.list r) x)(hne:r.elems≠[]):∃(ad:Addr) (n cap sz:Nat) (cs:List Value),x=.slice (some ad) n cap∧ad.block<w.heap.size∧Zaj C h L ad.block∧n=r.elems.length∧n≤cap∧
 (∀x∈r.elems,x.flat.length=sz)∧(∀v∈cs,v.oneCell'=true)∧(∀(j:Nat) (v:Value),cs[j]? =some v→w.cell? (ad.add j)=some v)∧AV.pureL (Zad r.elems)=true∧
 RelL w (Zaj C h L) h L (Zad r.elems) cs:=by
 cases hr with
 |nil _ _ _ he=>exact absurd he hne
 |list _ xs hx ad n cap sz cs hb hok hn hcap hsz hl h1 hc hp hrr=>subst hx;exact⟨ad,n,cap,sz,cs,rfl,hb,hok,hn,hcap,hsz,h1,hc,hp,hl.symm,hrr⟩
theorem ZdU:∀ {xs:List AV},AV.pureL xs=true→∀k n,AV.pureL ((xs.drop k).take n)=true:=by
 have hd:∀(k:Nat) (xs:List AV),AV.pureL xs=true→AV.pureL (xs.drop k)=true:=by
  intro k
  induction k with
  |zero=>intro xs h;exact h
  |succ k ih=>intro xs h;cases xs with
   |nil=>rfl
   |cons x xs=>simp only[AV.pureL,Bool.and_eq_true]at h;exact ih xs h.2
 have ht:∀(n:Nat) (xs:List AV),AV.pureL xs=true→AV.pureL (xs.take n)=true:=by
  intro n
  induction n with
  |zero=>intro xs _;rfl
  |succ n ih=>intro xs h;cases xs with
   |nil=>rfl
   |cons x xs=>simp only[AV.pureL,Bool.and_eq_true]at h;simp only[List.take_succ_cons,AV.pureL,Bool.and_eq_true];exact⟨h.1,ih xs h.2⟩
 intro xs h k n
 exact ht n _ (hd k _ h)
theorem Zlq{r:Row}{ad:Addr}{sz k:Nat}{cs:List Value}(hb:ad.block<w.heap.size)(hok:Zaj C h L ad.block)(hsz:∀x∈r.elems,x.flat.length=sz)(h1:∀v∈cs,v.oneCell'=true)
 (hc:∀(j:Nat) (v:Value),cs[j]? =some v→w.cell? (ad.add j)=some v) (hp:AV.pureL (Zad r.elems)=true) (hr:RelL w (Zaj C h L) h L (Zad r.elems) cs) (hk:k<r.elems.length) (hpos:0<sz):
 Zao C h L w (.eptr (r.get std k) 0) (.pointer (some (ad.add (k*sz)))):=by
 have hget:=Row.get_std hk
 have hul:=hsz _ (List.mem_of_getElem? hget)
 have hfa:=Zah hsz
 have hge:k*sz+sz≤r.elems.length*sz:=by
  have:=Nat.mul_le_mul_right sz (Nat.succ_le_of_lt hk)
  rwa[Nat.succ_mul]at this
 have hl6:=hr.1
 have hsub:(r.get std k).flat=((Zad r.elems).drop (k*sz)).take sz:=by
  apply List.ext_getElem?
  intro j
  rw[List.getElem?_take]
  split
  ·rename_i hj;rw[List.getElem?_drop,ZcB hsz hget j hj]
  ·exact List.getElem?_eq_none (by omega)
 have hsp:(ad.add (k*sz)).spot=none:=by
  have hj:cs[k*sz]? =some (cs[k*sz]'(by omega)):=List.getElem?_eq_getElem (by omega)
  exact Zez (hc _ _ hj)
 have hzero:(ad.add (k*sz))=(ad.add (k*sz)).add 0:=by simp[Addr.add]
 rw[hzero]
 have hpart:=hr.part (k*sz) sz
 rw[←hsub]at hpart
 refine .eptr _ 0 _ ((cs.drop (k*sz)).take sz) hsp (by rw[ZbR];exact hb) (by rw[ZbR];exact hok) hpart.1.symm (fun v hv=>h1 v (List.mem_of_mem_drop (List.mem_of_mem_take hv))) (fun j v hj=>?_) (by rw[hsub];exact ZdU hp _ _) hpart.2
 rw[List.getElem?_take]at hj
 split at hj
 ·rw[List.getElem?_drop]at hj
  rw[ZdF];exact hc _ v hj
 ·cases hj
theorem ZjX{h:Zab}{sz:Nat}{x i v:AV}(hv:Zb9 std h sz x i=some (true,v)):Zbo std h sz x i=some (true,v):=by
 unfold Zb9 at hv
 split at hv
 ·rename_i a j
  split at hv
  ·rename_i k n
   split at hv
   ·rename_i m
    split at hv
    ·rename_i e sz' r hb
     simp only[Option.some.injEq,Prod.mk.injEq,std_and]at hv
     obtain⟨⟨h1,h2⟩,rfl⟩:=hv
     simp only[Zbo,hb,Option.some.injEq,Prod.mk.injEq,std_and]
     refine⟨⟨h1,by simp[std],?_⟩,by simp[std]⟩
     simpa[std]using h2
    ·cases hv
   ·exact hv
  ·exact hv
 ·rename_i r
  split at hv
  ·rename_i k n
   split at hv
   ·rename_i m
    simp only[Option.some.injEq,Prod.mk.injEq,std_and]at hv
    obtain⟨⟨h1,h2⟩,rfl⟩:=hv
    have e:std.nat (Int.ofNat m)=m:=by simp[std]
    simp only[Zbo,e,Option.some.injEq,Prod.mk.injEq,std_and]
    exact⟨⟨⟨by simp[std],h1⟩,h2⟩,by simp⟩
   ·exact hv
  ·exact hv
 ·exact hv
theorem Zex(H:HRel C h L w){t e:TypeId}{i:TypeInfo}{sz:Nat}{x ix:AV}{x' ix':Operand}(ho:o.op=.indexAddr t x' ix')(rx:Zao C h L w x (ev x'))(ri:Zao C h L w ix (ev ix'))
 (ht:C.P.underlying t=some (.slice e)) (hi:C.P.info? e=some i) (hsz:i.size=sz) (hpos:0<sz) (hv:Zbo std h sz x ix=some (true,v)):Snd C h L w ev o h v:=by
 have run:∀(ad:Addr) (len cap:Nat) (k:IntKind) (n:Int),ev x'=.slice (some ad) len cap→ev ix'=.int k n→0≤n→n.toNat<len→
  (execOp ev o).run C.P w=.ok (.value (.pointer (some (ad.add (n.toNat*sz))))) w:=fun ad len cap k n e1 e2 h0 hlt=>by
  have hlt':n<(len:Int):=by omega
  simp[execOp,ho,Instr.indexAt,e1,e2,asIntOf,Zai ht,h0,hlt',ZaU hi,hsz]
 unfold Zbo at hv
 split at hv
 ·rename_i kd n
  have hix:=ZaR ri
  split at hv
  ·rename_i r
   simp only[Option.some.injEq,Prod.mk.injEq,std_and]at hv
   obtain⟨⟨⟨h0,hlt⟩,hfl⟩,rfl⟩:=hv
   have h0:0≤n:=by simpa[std]using h0
   have hlt:n.toNat<r.elems.length:=by rw[Row.len_std]at hlt;simpa[std]using hlt
   have hfl:(r.get std n.toNat).flat.length=sz:=by rw[ZaF]at hfl;simpa[std]using hfl
   obtain⟨ad,nn,cap,sz',cs,hxv,hb,hok,hnn,hcap,hszs,h1,hc,hp,hr⟩:=ZgJ rx (by intro e';rw[e']at hlt;simp at hlt)
   have hss:sz'=sz:=by rw[←hszs _ (List.mem_of_getElem? (Row.get_std hlt))];exact hfl
   subst hss
   exact .pure H (run ad nn cap kd n hxv hix h0 (by omega)) (Zlq hb hok hszs h1 hc hp hr hlt hpos)
  ·rename_i a j
   split at hv
   ·rename_i e' sz' r hbk
    simp only[Option.some.injEq,Prod.mk.injEq,std_and]at hv
    obtain⟨⟨h2,h0,hlt⟩,rfl⟩:=hv
    have h0:0≤n:=by simpa[std]using h0
    have h2:sz'=sz:=by simpa[std]using h2
    have hlt:n.toNat<r.elems.length:=by rw[Row.len_std]at hlt;simpa[std]using hlt
    subst h2
    have htg:=H.tagAt hbk
    generalize hxv:ev x'=xv at rx
    cases rx with
    |row _ _ ad nn c hn hl=>
     obtain⟨had,rfl,rfl⟩:=hl.2 _ htg
     have e:=had (by simp only at hn;omega)
     subst e
     refine .pure H (run _ _ _ kd n hxv hix h0 hlt) ?_
     rw[ZaL]
     exact .ptr _ _ _ _ _ _ ⟨hl.1,fun sz hsz=>by rw[htg]at hsz;cases hsz;exact⟨rfl,by simp[std]⟩⟩
   ·cases hv
  ·rename_i a j k m cp
   split at hv
   ·rename_i e' sz' r hbk
    simp only[Option.some.injEq,Prod.mk.injEq,std_and]at hv
    obtain⟨⟨h2,h0,hlt⟩,rfl⟩:=hv
    have h0:0≤n:=by simpa[std]using h0
    have h2:sz'=sz:=by simpa[std]using h2
    have hlt:n.toNat<m:=by simpa[std]using hlt
    subst h2
    have htg:=H.tagAt hbk
    generalize hxv:ev x'=xv at rx
    cases rx with
    |slc _ _ _ _ _ ad c hn hl=>
     rcases hl.2 _ htg with⟨_,rfl,_⟩ |⟨_,rfl⟩ |⟨e,_⟩
     ·omega
     ·omega
     ·subst e
      refine .pure H (run _ _ _ kd n hxv hix h0 hlt) ?_
      rw[ZaL]
      exact .ptr _ _ _ _ _ _ ⟨hl.1,fun sz hsz=>by rw[htg]at hsz;cases hsz;exact⟨rfl,by simp[std,Nat.add_mul]⟩⟩
   ·cases hv
  ·rename_i a j k off m
   split at hv
   ·rename_i e' sz' r hbk
    simp only[Option.some.injEq,Prod.mk.injEq,std_and]at hv
    obtain⟨⟨h2,h0,hlt⟩,rfl⟩:=hv
    have h0:0≤n:=by simpa[std]using h0
    have h2:sz=1:=by simpa[std]using h2
    have hlt:n.toNat<m:=by simpa[std]using hlt
    subst h2
    have htg:=H.tagAt hbk
    generalize hxv:ev x'=xv at rx
    cases rx with
    |aslc _ _ _ _ _ g oo c hn hl=>
     rcases hl.2 _ htg with rfl |⟨rfl,rfl⟩
     ·omega
     ·refine .pure H (run _ _ _ kd n hxv hix h0 hlt) ?_
      rw[ZaL]
      exact .ptr _ _ _ _ _ _ ⟨hl.1,fun sz hsz=>by rw[htg]at hsz;cases hsz;exact⟨rfl,by simp[std,Nat.add_assoc]⟩⟩
   ·cases hv
  ·cases hv
 ·cases hv
theorem Ze6(H:HRel C h L w){t e:TypeId}{i:TypeInfo}{ln sz:Nat}{x ix:AV}{x' ix':Operand}(ho:o.op=.indexAddr t x' ix')(rx:Zao C h L w x (ev x'))(ri:Zao C h L w ix (ev ix'))
 (ht:C.P.underlying t=some (.array ln e)) (hi:C.P.info? e=some i) (hsz:i.size=sz) (hv:Zhs std ln sz x ix=some (true,v)):Snd C h L w ev o h v:=by
 have run:∀(ad:Addr) (k:IntKind) (n:Int),ev x'=.pointer (some ad)→ev ix'=.int k n→0≤n→n<ln→
  (execOp ev o).run C.P w=.ok (.value (.pointer (some (ad.add (n.toNat*sz))))) w:=fun ad k n e1 e2 h0 hlt=>by
  simp[execOp,ho,Instr.indexAt,e1,e2,asIntOf,Zai ht,Instr.sureAddr,h0,hlt,ZaU hi,hsz]
 have hmul:∀n:Int,Zdr std sz n=n.toNat*sz:=fun n=>by
  unfold Zdr
  split
  ·rename_i hb;have:sz=1:=by simpa using hb
   subst this;simp[std]
  ·rfl
 unfold Zhs at hv
 split at hv
 ·rename_i kd n
  have hix:=ZaR ri
  generalize hxv:ev x'=xv at rx
  split at hv
  ·rename_i a j k off
   simp only[Option.some.injEq,Prod.mk.injEq,std_and]at hv
   obtain⟨⟨h0,hlt⟩,rfl⟩:=hv
   have h0:0≤n:=by simpa[std]using h0
   have hlt:n<(ln:Int):=by simpa[std]using hlt
   cases rx with
   |ptr _ _ _ _ g oo hl=>
    refine .pure H (run _ kd n hxv hix h0 hlt) ?_
    rw[ZaL,hmul]
    exact .ptr _ _ _ _ _ _ ⟨hl.1,fun sz hsz=>⟨(hl.2 sz hsz).1,by rw[(hl.2 sz hsz).2];omega⟩⟩
  ·rename_i u off
   simp only[Option.some.injEq,Prod.mk.injEq,std_and]at hv
   obtain⟨⟨h0,hlt⟩,rfl⟩:=hv
   have h0:0≤n:=by simpa[std]using h0
   have hlt:n<(ln:Int):=by simpa[std]using hlt
   obtain⟨ad,cs,rfl,hsp,hb,hok,hl,h1,hc,hp,hr⟩:=Zgn rx
   refine .pure H (run _ kd n hxv hix h0 hlt) ?_
   rw[ZdF,hmul]
   exact .eptr u _ ad cs hsp hb hok hl h1 hc hp hr.2
  ·cases hv
 ·cases hv
theorem Zei{t:TypeId}{d:TypeDesc}{i:TypeInfo}{ag:Bool}{n off:Nat}{vs:Array Value}(hd:P.underlying t=some d)(hag:Zay d=ag)(hi:P.info? t=some i)
 (hn:i.size=n) (hne:ag=false→n=1) (hoff:off+n≤vs.size):(part t vs off).run P w=.ok (if ag then .agg ((vs.toList.drop off).take n).toArray else vs.toList.getD off undef) w:=by
 cases ag with
 |true=>
  have:vs.extract off (off+n)=((vs.toList.drop off).take n).toArray:=by apply Array.ext';simp[List.extract_eq_take_drop]
  simp[part,Zdn hd hag,ZaU hi,hn,this]
 |false=>
  have:=hne rfl
  have hv:vs[off]? =some (vs[off]'(by omega)):=Array.getElem?_eq_getElem (by omega)
  simp[part,Zdn hd hag,hv,List.getD_eq_getElem?_getD]
theorem Zlc(H:HRel C h L w){t:TypeId}{fs:Array Field}{f:Nat}{fd:Field}{d:TypeDesc}{i:TypeInfo}{ag:Bool}{off n:Nat}{r:Row}{x':Operand}(ho:o.op=.field t x' f)(rx:Zao C h L w (.agg r) (ev x'))
 (ht:C.P.underlying t=some (.struct fs)) (hf:fs[f]? =some fd) (hoff:fd.offset=off) (hd:C.P.underlying fd.type=some d) (hag:Zay d=ag) (hi:C.P.info? fd.type=some i)
 (hn:i.size=n) (hne:ag=false→n=1) (hv:ZqT std ag n off (.agg r)=some (true,v)):Snd C h L w ev o h v:=by
 obtain⟨vs,hxv,hr,h1⟩:=Zff rx
 obtain⟨c1,c2⟩:=ZhL (u:=.agg r) hr (by simpa using h1) hv hne
 have hp:=Zei (P:=C.P) (w:=w) (vs:=vs) (off:=off) hd hag hi hn hne (by simpa using c1)
 refine .pure H ?_ c2
 simp only[execOp,ho,Instr.field,Sem.run_bind,Zai ht,Result.andThen_ok,hf,hxv,asAgg,Sem.run_pure,hoff,hp]
theorem ZgQ(H:HRel C h L w){t e:TypeId}{d:TypeDesc}{i:TypeInfo}{ln:Nat}{r:Row}{kd:IntKind}{n:Int}{x' ix':Operand}(ho:o.op=.index t x' ix')(rx:Zao C h L w (.agg r) (ev x'))(ri:Zao C h L w (.int kd n) (ev ix'))
 (ht:C.P.underlying t=some (.array ln e)) (hd:C.P.underlying e=some d) (hag:Zay d=false) (hi:C.P.info? e=some i) (hn:i.size=1)
 (h0:0≤n) (hlt:n<(ln:Int)) (hl:n.toNat<r.elems.length):Snd C h L w ev o h (r.get std n.toNat):=by
 obtain⟨vs,hxv,hr,h1⟩:=Zff rx
 have hlv:n.toNat<vs.toList.length:=by rw[←hr.1];exact hl
 have hp:=Zei (P:=C.P) (w:=w) (vs:=vs) (off:=n.toNat) hd hag hi hn (fun _=>rfl) (by simp at hlv;omega)
 simp only[Bool.false_eq_true,if_false]at hp
 refine .pure H (r:=vs.toList.getD n.toNat undef) ?_ (hr.2 _ _ _ (Row.get_std hl) (by rw[List.getD_eq_getElem?_getD,List.getElem?_eq_getElem hlv];rfl))
 simp only[execOp,ho,Instr.index,Sem.run_bind,ZaR ri,asIntOf,Sem.run_pure,Result.andThen_ok,Zai ht,hxv,h0,hlt,and_self,if_true,ZaU hi,hn,Nat.mul_one,hp]
theorem Zkl(H:HRel C h L w){t:TypeId}{l:List UInt8}{kd:IntKind}{n:Int}{x' ix':Operand}(ho:o.op=.index t x' ix')(rx:Zao C h L w (.str l) (ev x'))(ri:Zao C h L w (.int kd n) (ev ix'))(ht:C.P.underlying t=some .string)
 (h0:0≤n) (hlt:n.toNat<l.length):Snd C h L w ev o h (.int .u8 (std.nthS l n.toNat)):=by
 refine .pure H (r:=.int .u8 (l.getD n.toNat 0).toNat) ?_ (.int _ _)
 have hb:(⟨l.toArray⟩:ByteArray)[n.toNat]? =some (l.getD n.toNat 0):=by
  have hsz:n.toNat<(⟨l.toArray⟩:ByteArray).size:=hlt
  rw[getElem?_pos (⟨l.toArray⟩:ByteArray) n.toNat hsz]
  simp[List.getD_eq_getElem?_getD,hlt]
  rfl
 simp only[execOp,ho,Instr.index,Sem.run_bind,ZaR ri,asIntOf,Sem.run_pure,Result.andThen_ok,Zai ht,ZgS rx,h0,if_true,hb]
theorem ZkV(H:HRel C h L w){ix:Nat}{xs:List AV}{x':Operand}(ho:o.op=.extract x' ix)(rx:Zao C h L w (.tup xs) (ev x'))(hv:xs[ix]? =some v):Snd C h L w ev o h v:=by
 cases hxv:ev x'<;>rw[hxv]at rx<;>cases rx
 rename_i vs hl hr
 have hlt:ix<vs.size:=by rw[←hl];exact(List.getElem?_eq_some_iff.1 hv).1
 have hg:vs[ix]? =some vs[ix]:=Array.getElem?_eq_getElem hlt
 exact .pure H (r:=vs[ix]) (by simp[execOp,ho,Instr.extract,hxv,hg]) (hr ix v _ hv hg)
theorem Zf2:∀ {xs:List Opd} {ys:List Operand},Zeb xs ys=true→xs.length=ys.length∧∀(j:Nat) (x:Opd) (y:Operand),xs[j]? =some x→ys[j]? =some y→ZaC x y=true
 |[],[],_=>⟨rfl,fun j x y h=>by simp at h⟩
 |x::xs,y::ys,h=>by
  simp only[Zeb,Bool.and_eq_true]at h
  obtain⟨h1,h2⟩:=Zf2 h.2
  refine⟨by simp[h1],fun j a b ha hb=>?_⟩
  cases j with
  |zero=>simp at ha hb;subst ha;subst hb;exact h.1
  |succ j=>exact h2 j a b (by simpa using ha) (by simpa using hb)
 |[],_::_,h=>by simp[Zeb]at h
 |_::_,[],h=>by simp[Zeb]at h
theorem ZbC(hρ:Rho C h L w ρ ev){xs:List Opd}{ys:Array Operand}(hm:Zeb xs ys.toList=true):RelL w (Zaj C h L) h L (xs.map ρ) (ys.map ev).toList:=by
 obtain⟨hl,hm⟩:=Zf2 hm
 refine⟨by simpa using hl,fun j u v hu hv=>?_⟩
 rw[List.getElem?_map]at hu
 cases hx:xs[j]? with
 |none=>simp[hx]at hu
 |some x=>
  cases hy:ys[j]? with
  |none=>simp[hy]at hv
  |some y=>
   simp[hx]at hu;simp[hy]at hv
   subst hu;subst hv
   exact hρ.rel x y (hm j x y hx (by simpa using hy))
theorem ZkI(H:HRel C h L w)(hρ:Rho C h L w ρ ev){f:FuncId}{xs:List Opd}{ys:Array Operand}(ho:o.op=.makeFunc (.func f) #[] ys)(hm:Zeb xs ys.toList=true):Snd C h L w ev o h (.fn f (xs.map ρ)):=by
 have hr:=ZbC hρ hm
 refine .pure H (r:=.func (.func f) #[] (ys.map ev)) (by simp[execOp,ho,Instr.makeFunc]) ?_
 exact .fn f _ _ (by simpa using hr.1) (fun j u v hu hv=>hr.2 j u v hu (by simpa using hv))
theorem Zbi(hρ:Rho C h L w ρ ev){x:Option Opd}{y:Option Operand}(hm:Ze7 x y=true){d n:Nat}{b:Bool}(hv:Zc5 std ρ d x=some (b,n))(hb:b=true):(y=none∧n=d)∨∃z k,y=some z∧ev z=.int k (n:Int):=by
 cases x with
 |none=>
  cases y with
  |none=>simp only[Zc5,Option.some.injEq,Prod.mk.injEq]at hv;exact .inl ⟨rfl,hv.2.symm⟩
  |some y=>simp[Ze7]at hm
 |some x=>
  cases y with
  |none=>simp[Ze7]at hm
  |some y=>
   have r:=hρ.rel x y hm
   simp only[Zc5]at hv
   split at hv
   ·rename_i k n' hq
    rw[hq]at r
    simp only[Option.some.injEq,Prod.mk.injEq]at hv
    obtain⟨h1,h2⟩:=hv
    rw[hb]at h1
    have h1:0≤n':=by simpa[std]using h1
    have h2:n'.toNat=n:=h2
    exact .inr ⟨y,k,rfl,by rw[ZaR r];congr 1;omega⟩
   ·cases hv
theorem Zct{b:Bool}{ln cap m:Nat}{lo hi mx:Option Operand}{l hh:Nat}(hl:(lo=none∧l=0)∨∃z k,lo=some z∧ev z=.int k (l:Int))(hhi:(hi=none∧hh=ln)∨∃z k,hi=some z∧ev z=.int k (hh:Int))
 (hmx:(mx=none∧m=cap)∨∃z k,mx=some z∧ev z=.int k (m:Int)) (hmh:mx.isNone∨hi.isSome) (h1:l≤hh) (h2:hh≤m) (h3:m≤cap):(Instr.sliceBounds b ln cap (lo.map ev) (hi.map ev) (mx.map ev)).run P w=.ok (l,hh,m) w:=by
 have hb:∀(v:Operand) (k:IntKind) (n y:Nat) (code:BoundsCode),ev v=.int k (n:Int)→n≤y→(Instr.sliceBound (ev v) y code).run P w=.ok n w:=fun v k n y code e1 e3=>by
  have:(n:Int)≤y:=by omega
  simp[Instr.sliceBound,e1,asIntOf,this]
 rcases hl with⟨rfl,rfl⟩ |⟨z,k,rfl,ez⟩<;>rcases hhi with⟨rfl,rfl⟩ |⟨z',k',rfl,ez'⟩<;>rcases hmx with⟨rfl,rfl⟩ |⟨z2,k2,rfl,ez2⟩
 ·simp[Instr.sliceBounds]
 ·simp at hmh
 ·simp[Instr.sliceBounds,hb z' k' hh _ _ ez' h2]
 ·simp[Instr.sliceBounds,hb z2 k2 m cap _ ez2 h3,hb z' k' hh m _ ez' h2]
 ·simp[Instr.sliceBounds,hb z k l hh _ ez h1]
 ·simp at hmh
 ·simp[Instr.sliceBounds,hb z' k' hh _ _ ez' h2,hb z k l hh _ ez h1]
 ·simp[Instr.sliceBounds,hb z2 k2 m cap _ ez2 h3,hb z' k' hh m _ ez' h2,hb z k l hh _ ez h1]
theorem ZlL(H:HRel C h L w)(hρ:Rho C h L w ρ ev){t e:TypeId}{i:TypeInfo}{sz:Nat}{x:AV}{x':Operand}{lo hi mx:Option Opd}{lo' hi' mx':Option Operand}(ho:o.op=.slice t x' lo' hi' mx')(rx:Zao C h L w x (ev x'))
 (hlo:Ze7 lo lo'=true) (hhi:Ze7 hi hi'=true) (hmx:Ze7 mx mx'=true) (hmh:mx.isNone=true∨hi.isSome=true) (ht:C.P.underlying t=some (.slice e)) (hinf:C.P.info? e=some i) (hsz:i.size=sz) (hpos:0<sz)
 (hv:Zqc std ρ h sz x lo hi mx=some (true,v)):Snd C h L w ev o h v:=by
 have hmh':mx'.isNone=true∨hi'.isSome=true:=by
  cases mx<;>cases mx'<;>cases hi<;>cases hi'<;>simp_all[Ze7]
 -- the run
 have run:∀(adr:Option Addr) (n cap l m q:Nat),ev x'=.slice adr n cap→((lo'=none∧l=0)∨∃z k,lo'=some z∧ev z=.int k (l:Int))→((hi'=none∧m=n)∨∃z k,hi'=some z∧ev z=.int k (m:Int))→
  ((mx'=none∧q=cap)∨∃z k,mx'=some z∧ev z=.int k (q:Int))→l≤m→m≤q→q≤cap→
  (execOp ev o).run C.P w=.ok (.value (.slice (if q=l then adr else adr.map (·.add (l*sz))) (m-l) (q-l))) w:=fun adr n cap l m q e1 e2 e3 e4 e5 e6 e7=>by
  have hbd:=Zct (P:=C.P) (w:=w) (ev:=ev) (b:=true) (ln:=n) (cap:=cap) e2 e3 e4 hmh' e5 e6 e7
  simp only[execOp,ho,Instr.sliceAt,Instr.slice,Sem.run_bind,Zai ht,Result.andThen_ok,e1,hsz,ZaU hinf]
  rw[hbd]
  simp
 unfold Zqc at hv
 split at hv
 ·cases hv
 ·rename_i b1 l hl0
  -- the general step
  have keyX:∀(n p:Nat) (f:Nat→Out),goX std ρ hi b1 l n p f=some (true,v)→∃m,f m=some (true,v)∧l≤m∧m≤p∧((lo'=none∧l=0)∨∃z k,lo'=some z∧ev z=.int k (l:Int))∧((hi'=none∧m=n)∨∃z k,hi'=some z∧ev z=.int k (m:Int))∧(lo=none→l=0)∧(hi=none→m=n):=by
   intro n p f hf
   unfold goX at hf
   split at hf
   ·cases hf
   ·rename_i b2 m hm0
    split at hf
    ·rename_i b3 v' hfm
     simp only[Option.some.injEq,Prod.mk.injEq,std_and]at hf
     obtain⟨⟨⟨rfl,rfl⟩,⟨h1,h2⟩,rfl⟩,rfl⟩:=hf
     refine⟨m,hfm,by simpa[std]using h1,by simpa[std]using h2,Zbi hρ hlo hl0 rfl,Zbi hρ hhi hm0 rfl,fun e=>?_,fun e=>?_⟩
     ·subst e;simp only[Zc5,Option.some.injEq,Prod.mk.injEq]at hl0;exact hl0.2.symm
     ·subst e;simp only[Zc5,Option.some.injEq,Prod.mk.injEq]at hm0;exact hm0.2.symm
    ·cases hf
  have key:∀(n:Nat) (f:Nat→Out),goR std ρ hi b1 l n f=some (true,v)→∃m,f m=some (true,v)∧l≤m∧m≤n∧((lo'=none∧l=0)∨∃z k,lo'=some z∧ev z=.int k (l:Int))∧((hi'=none∧m=n)∨∃z k,hi'=some z∧ev z=.int k (m:Int))∧(lo=none→l=0)∧(hi=none→m=n):=fun n f hf=>keyX n n f hf
  have capk:∀(n m:Nat) (c:Option Nat) (b:Bool) (c':Option Nat),Zmx std ρ mx l n m c=some (b,c')→b=true→
   (mx'=none∧c'=c.map (· -l))∨∃z k q,mx'=some z∧ev z=.int k ((q:Nat):Int)∧m≤q∧q≤n∧c'=some (q-l):=by
   intro n m c b c' hc hb
   unfold Zmx at hc
   cases mx with
   |none=>
    cases mx' with
    |some y=>simp[Ze7]at hmx
    |none=>
     left
     cases c<;>simp only[Option.some.injEq,Prod.mk.injEq]at hc<;>exact⟨rfl,by rw[←hc.2];rfl⟩
   |some y=>
    cases mx' with
    |none=>simp[Ze7]at hmx
    |some z=>
     right
     have r:=hρ.rel y z hmx
     dsimp only at hc
     split at hc
     ·rename_i k q hq
      rw[hq]at r
      simp only[Option.some.injEq,Prod.mk.injEq]at hc
      obtain⟨hc1,rfl⟩:=hc
      rw[hb]at hc1
      simp only[std_and]at hc1
      have g0:0≤q:=by simpa[std]using hc1.1
      have g1:m≤q.toNat:=by simpa[std]using hc1.2.1
      have g2:q.toNat≤n:=by simpa[std]using hc1.2.2
      exact⟨z,k,q.toNat,rfl,by rw[ZaR r];congr 1;omega,g1,g2,rfl⟩
     ·cases hc
  generalize hxv:ev x'=xv at rx
  unfold Zoy at hv
  split at hv
  ·rename_i r
   obtain⟨m,hf,c1,c2,c3,c4,_,_⟩:=key _ _ hv
   split at hf
   ·rename_i b c' hcap
    simp only[Option.some.injEq,Prod.mk.injEq,std_and]at hf
    obtain⟨⟨hun,rfl⟩,rfl⟩:=hf
    have hcc:=capk _ _ _ _ _ hcap rfl
    rw[Row.len_std]at c2 c4
    obtain⟨adr,n,cap,hxe,hn,hnc⟩:∃adr n cap,xv=.slice adr n cap∧n=r.elems.length∧n≤cap:=by
     cases rx with
     |nil _ a c he=>exact⟨a,0,c,rfl,by rw[he];rfl,Nat.zero_le _⟩
     |list _ xs hx ad n cap sz cs hb hok hn hcap hsz hl h1 hc hp hr=>subst hx;exact⟨some ad,n,cap,rfl,hn,hcap⟩
    subst hn
    obtain⟨q,hq,hmq,hqc⟩:∃q:Nat,((mx'=none∧q=cap)∨∃z k,mx'=some z∧ev z=.int k (q:Int))∧m≤q∧q≤cap:=by
     rcases hcc with⟨e1,_⟩ |⟨z,k,q,e1,e2,e3,e4,_⟩
     ·exact⟨cap, .inl ⟨e1,rfl⟩,by omega,Nat.le_refl _⟩
     ·rw[Row.len_std]at e4;exact⟨q, .inr ⟨z,k,e1,e2⟩,e3,by omega⟩
    refine .pure H (run adr _ cap l m q (by rw[hxv,hxe]) c3 c4 hq c1 hmq hqc) ?_
    have hel:(r.sub std l (m-l)).elems=sub3 r.elems l (m-l):=Row.sub_std _ _ _
    have hlen:(r.sub std l (m-l)).elems.length=m-l:=by rw[hel];simp[sub3];omega
    show Zao C h L w (.list (r.sub std l (m-l))) _
    by_cases hz:m-l=0
    ·rw[hz]
     rw[hz]at hlen
     exact .nil _ _ _ (List.eq_nil_of_length_eq_zero hlen)
    ·have hne:r.elems≠[]:=by intro e';rw[e']at c2;simp at c2;omega
     obtain⟨ad,n',cap',sz',cs,hv',hb,hok,hn',hcap',hszs,h1,hc,hp,hr⟩:=ZgJ rx hne
     rw[hxe]at hv'
     cases hv'
     have hss:sz'=sz:=by
      have hlt:0<r.elems.length:=List.length_pos_iff.2 hne
      have hg:=Row.get_std hlt
      rw[←hszs _ (List.mem_of_getElem? hg),←ZaF]
      unfold Row.unit at hun
      split at hun
      ·exact absurd rfl hne
      ·simpa[std]using hun
     subst hss
     rw[if_neg (by omega)]
     simp only[Option.map_some]
     have hfl:Zad (r.sub std l (m-l)).elems=((Zad r.elems).drop (l*sz')).take ((m-l)*sz'):=by
      rw[hel];unfold sub3
      rw[ZaA _ _ (fun y hy=>hszs y (List.mem_of_mem_drop hy)),ZaI _ _ hszs]
     have hpart:=hr.part (l*sz') ((m-l)*sz')
     rw[←hfl]at hpart
     refine .list _ _ rfl (ad.add (l*sz')) _ _ sz' ((cs.drop (l*sz')).take ((m-l)*sz')) (by rw[ZbR];exact hb) (by rw[ZbR];exact hok) hlen.symm (by omega)
      (fun x hx=>by rw[hel]at hx;exact hszs x (List.mem_of_mem_drop (List.mem_of_mem_take hx))) hpart.1.symm (fun v hv=>h1 v (List.mem_of_mem_drop (List.mem_of_mem_take hv))) (fun j v hj=>?_) (by rw[hfl];exact ZdU hp _ _) hpart.2
     rw[List.getElem?_take]at hj
     split at hj
     ·rw[List.getElem?_drop]at hj
      rw[ZdF];exact hc _ v hj
     ·cases hj
   ·cases hf
  ·obtain⟨m,hf,c1,c2,c3,c4,_,_⟩:=key _ _ hv
   split at hf
   ·rename_i b c' hcap
    simp only[Option.some.injEq,Prod.mk.injEq]at hf
    obtain⟨rfl,rfl⟩:=hf
    have hcc:=capk _ _ _ _ _ hcap rfl
    have hm0:m=0:=by omega
    have hl0:l=0:=by omega
    subst hm0;subst hl0
    cases rx
    obtain⟨q,hq,hqc⟩:∃q:Nat,((mx'=none∧q=0)∨∃z k,mx'=some z∧ev z=.int k (q:Int))∧q≤0:=by
     rcases hcc with⟨e1,_⟩ |⟨z,k,q,e1,e2,e3,e4,_⟩
     ·exact⟨0, .inl ⟨e1,rfl⟩,Nat.le_refl _⟩
     ·exact⟨q, .inr ⟨z,k,e1,e2⟩,e4⟩
    have hq0:q=0:=by omega
    subst hq0
    exact .pure H (run none 0 0 0 0 0 hxv c3 c4 hq (Nat.le_refl _) (Nat.le_refl _) (Nat.le_refl _)) .nils
   ·cases hf
  ·rename_i a j
   split at hv
   ·rename_i e' sz' r hbk
    obtain⟨m,hf,c1,c2,c3,c4,c5,c6⟩:=key _ _ hv
    rw[Row.len_std]at c2 c4 c6
    obtain⟨htg,g0,g1,g2,g3⟩:=H.rowAt hbk
    split at hf
    ·rename_i b c' hcap
     cases rx with
     |row _ _ ad n c hn hl=>
      obtain⟨had,rfl,rfl⟩:=hl.2 _ htg
      dsimp only at hxv hn had
      split at hf
      ·rename_i hall
       cases hf
       obtain⟨rfl,rfl,rfl⟩:lo=none∧hi=none∧mx=none:=by
        unfold Zv8 at hall
        split at hall
        ·exact⟨rfl,rfl,rfl⟩
        ·cases hall
       have hl0:=c5 rfl
       have hm0:=c6 rfl
       subst hl0;subst hm0
       have hmx':mx'=none:=by cases mx' with |none=>rfl |some y=>simp[Ze7]at hmx
       have:=run _ _ _ 0 _ (L.size a j) hxv c3 c4 (.inl ⟨hmx',rfl⟩) (Nat.zero_le _) g2 (Nat.le_refl _)
       refine .pure H this ?_
       have hadd:(if L.size a j=0 then ad else Option.map (fun b:Addr=>b.add (0*sz)) ad)=ad:=by split;rfl;cases ad<;>simp[Addr.add]
       rw[hadd]
       exact .row _ _ _ _ _ (by omega) ⟨hl.1,fun s hs=>by rw[htg]at hs;cases hs;exact⟨fun h=>had (by simpa using h),by simp,by simp⟩⟩
      ·simp only[Option.some.injEq,Prod.mk.injEq,std_and]at hf
       obtain⟨⟨hss,rfl⟩,rfl⟩:=hf
       have hss:sz'=sz:=by simpa[std]using hss
       subst hss
       have hcc:=capk _ _ _ _ _ hcap rfl
       obtain⟨q,hq,hmq,hqc,hc'⟩:∃q:Nat,((mx'=none∧q=L.size a j)∨∃z k,mx'=some z∧ev z=.int k (q:Int))∧m≤q∧q≤L.size a j∧q-l=c'.getD (L.size a j-l):=by
        rcases hcc with⟨e1,e2⟩ |⟨z,k,q,e1,e2,e3,e4,e5⟩
        ·exact⟨L.size a j, .inl ⟨e1,rfl⟩,by omega,Nat.le_refl _,by rw[e2];rfl⟩
        ·rw[Row.len_std]at e4;exact⟨q, .inr ⟨z,k,e1,e2⟩,e3,by omega,by rw[e5];rfl⟩
       refine .pure H (run _ _ _ l m q hxv c3 c4 hq c1 hmq hqc) ?_
       by_cases hs0:L.size a j=0
       ·exact .slc _ _ _ _ _ _ _ (by show m-l≤_;omega) ⟨hl.1,fun s hs=>.inr (.inl ⟨hs0,by omega⟩)⟩
       have had:=had hs0
       subst had
       split
       ·rename_i hql
        have hml:m-l=0:=by omega
        refine .slc _ _ _ _ _ _ _ (by show m-l≤_;omega) ⟨hl.1,fun s hs=>?_⟩
        rw[htg]at hs;cases hs
        by_cases hl0:l=0
        ·refine .inr (.inr ⟨by simp[hl0],by omega,hc'⟩)
        ·exact .inl ⟨hl0,hml,_,_,rfl⟩
       ·simp only[Option.map_some,ZaL,Nat.zero_add]
        refine .slc _ _ _ _ _ _ _ (by show m-l≤q-l;omega) ⟨hl.1,fun s hs=>?_⟩
        rw[htg]at hs;cases hs
        exact .inr (.inr ⟨rfl,by omega,hc'⟩)
    ·cases hf
   ·cases hv
  ·rename_i a j k n c
   split at hv
   ·rename_i e' sz' r hbk
    obtain⟨m,hf,c1,c2,c3,c4,c5,c6⟩:=keyX _ _ _ hv
    obtain⟨htg,g0,g1,g2,g3⟩:=H.rowAt hbk
    split at hf
    ·rename_i b c' hcap
     simp only[Option.some.injEq,Prod.mk.injEq,std_and]at hf
     obtain⟨⟨hss,rfl⟩,rfl⟩:=hf
     have hss:sz'=sz:=by simpa[std]using hss
     subst hss
     have hcc:=capk _ _ _ _ _ hcap rfl
     cases rx with
     |slc _ _ _ _ _ ad cp hn hl=>
      have hlim:mx=none→m≤cp:=fun _=>by
       rcases ZdH k c lo hi mx n (r.len std)with e |⟨e1,e2,_,e4⟩
       ·rw[e]at c2;omega
       ·rw[e4,Row.len_std]at c2
        rcases hl.2 _ htg with⟨hk,_⟩ |⟨e6,e7⟩ |⟨_,_,e5⟩
        ·exact absurd e1 hk
        ·omega
        ·rw[e2]at e5;simp at e5;clear e4;omega
      have hk0:k≠0→m≤n:=fun hk=>by
       rcases ZdH k c lo hi mx n (r.len std)with e |⟨e1,_⟩
       ·rw[e]at c2;exact c2
       ·exact absurd e1 hk
      have c2:mx=none∨m≤n:=by
       rcases ZdH k c lo hi mx n (r.len std)with e |⟨e1,e2,e3,e4⟩
       ·rw[e]at c2;exact .inr c2
       ·exact .inl e3
      obtain⟨q,hq,hmq,hqc,hc'⟩:∃q:Nat,((mx'=none∧q=cp)∨∃z k,mx'=some z∧ev z=.int k (q:Int))∧m≤q∧q≤cp∧((mx'=none∧q=cp∧c'=c.map (· -l))∨c'=some (q-l)):=by
       rcases hcc with⟨e1,e2⟩ |⟨z,k,q,e1,e2,e3,e4,e5⟩
       ·exact⟨cp, .inl ⟨e1,rfl⟩,by rcases c2 with e |e;exact hlim e;omega,Nat.le_refl _, .inl ⟨e1,rfl,e2⟩⟩
       ·exact⟨q, .inr ⟨z,k,e1,e2⟩,e3,by omega, .inr e5⟩
      refine .pure H (run _ _ _ l m q hxv c3 c4 hq c1 hmq hqc) ?_
      have hcap':∀S,k+cp≤S→cp=c.getD (S-k)→q-l=c'.getD (S-(k+l)):=fun S hS hcp=>by
       rcases hc' with⟨_,e1,e2⟩ |e2
       ·rw[e2,e1]
        cases c with
        |none=>simp at hcp ⊢;omega
        |some c0=>simp at hcp ⊢;omega
       ·rw[e2];rfl
      rcases hl.2 _ htg with⟨hk,hn0,g9,o9,rfl⟩ |⟨hs0,rfl⟩ |⟨rfl,e3,e4⟩
      ·refine .slc _ _ _ _ _ _ _ (by show m-l≤_;omega) ⟨hl.1,fun s hs=>.inl ⟨by show k+l≠0;omega,by have:=hk0 hk;show m-l=0;omega,?_⟩⟩
       split
       ·exact⟨_,_,rfl⟩
       ·simp only[Option.map_some,ZaL];exact⟨_,_,rfl⟩
      ·exact .slc _ _ _ _ _ _ _ (by show m-l≤_;omega) ⟨hl.1,fun s hs=>.inr (.inl ⟨hs0,by omega⟩)⟩
      split
      ·rename_i hql
       have hml:m-l=0:=by omega
       refine .slc _ _ _ _ _ _ _ (by show m-l≤_;omega) ⟨hl.1,fun s hs=>?_⟩
       rw[htg]at hs;cases hs
       by_cases hkl:k+l=0
       ·obtain⟨rfl,rfl⟩:k=0∧l=0:=by omega
        exact .inr (.inr ⟨by simp,by show 0+0+(q-0)≤_;omega,hcap' _ e3 e4⟩)
       ·exact .inl ⟨hkl,hml,_,_,rfl⟩
      ·simp only[Option.map_some,ZaL]
       refine .slc _ _ _ _ _ _ _ (by show m-l≤q-l;omega) ⟨hl.1,fun s hs=>?_⟩
       rw[htg]at hs;cases hs
       exact .inr (.inr ⟨by simp only[Nat.add_mul],by show k+l+(q-l)≤_;omega,hcap' _ e3 e4⟩)
    ·cases hf
   ·cases hv
  ·rename_i a j k off n
   obtain⟨m,hf,c1,c2,c3,c4,c5,c6⟩:=key _ _ hv
   split at hf
   ·rename_i b c' hcap
    simp only[Option.some.injEq,Prod.mk.injEq,std_and]at hf
    obtain⟨⟨hss,rfl⟩,rfl⟩:=hf
    have hss:sz=1:=by simpa[std]using hss
    subst hss
    have hcc:=capk _ _ _ _ _ hcap rfl
    cases rx with
    |aslc _ _ _ _ _ g oo cp hn hl=>
     obtain⟨q,hq,hmq,hqc⟩:∃q:Nat,((mx'=none∧q=cp)∨∃z k,mx'=some z∧ev z=.int k (q:Int))∧m≤q∧q≤cp:=by
      rcases hcc with⟨e1,e2⟩ |⟨z,k,q,e1,e2,e3,e4,e5⟩
      ·exact⟨cp, .inl ⟨e1,rfl⟩,by omega,Nat.le_refl _⟩
      ·exact⟨q, .inr ⟨z,k,e1,e2⟩,e3,by omega⟩
     refine .pure H (run _ _ _ l m q hxv c3 c4 hq c1 hmq hqc) ?_
     split
     ·rename_i hql
      exact .aslc _ _ _ _ _ _ _ _ (by show m-l≤q-l;omega) ⟨hl.1,fun s hs=>.inl (by show m-l=0;omega)⟩
     ·simp only[Option.map_some,ZaL]
      refine .aslc _ _ _ _ _ _ _ _ (by show m-l≤q-l;omega) ⟨hl.1,fun s hs=>?_⟩
      rcases hl.2 _ hs with hn0 |⟨e1,e2⟩
      ·exact .inl (by show m-l=0;omega)
      ·exact .inr ⟨e1,by simp only[e2,Nat.mul_one];omega⟩
   ·cases hf
  ·cases hv
theorem Zmr(H:HRel C h L w)(hρ:Rho C h L w ρ ev){t arr e:TypeId}{i:TypeInfo}{ln:Nat}{p:AV}{p':Operand}{lo hi:Option Opd}{lo' hi':Option Operand}(ho:o.op=.slice t p' lo' hi' none)(rp:Zao C h L w p (ev p'))
 (hlo:Ze7 lo lo'=true) (hhi:Ze7 hi hi'=true) (ht:C.P.underlying t=some (.pointer arr)) (ha:C.P.underlying arr=some (.array ln e)) (hinf:C.P.info? e=some i) (hsz:i.size=1)
 (hv:ZqY std ρ ln p lo hi=some (true,v)):Snd C h L w ev o h v:=by
 unfold ZqY at hv
 split at hv
 ·rename_i b1 l b2 m hl0 hm0
  generalize hxv:ev p'=pv at rp
  split at hv
  ·rename_i a j k off
   simp only[Option.some.injEq,Prod.mk.injEq,std_and]at hv
   obtain⟨⟨⟨rfl,rfl⟩,c1,c2⟩,rfl⟩:=hv
   have c1:l≤m:=by simpa[std]using c1
   have c2:m≤ln:=by simpa[std]using c2
   have e2:=Zbi hρ hlo hl0 rfl
   have e3:=Zbi hρ hhi hm0 rfl
   have hbd:=Zct (P:=C.P) (w:=w) (ev:=ev) (b:=false) (ln:=ln) (cap:=ln) (mx:=none) e2 e3 (.inl ⟨rfl,rfl⟩) (.inl rfl) c1 c2 (Nat.le_refl _)
   cases rp with
   |ptr _ _ _ _ g oo hl=>
    refine .pure H (r:=.slice (some (if ln=l then⟨g,oo,none⟩else(⟨g,oo,none⟩:Addr).add (l*1))) (m-l) (ln-l)) ?_ ?_
    ·simp only[Option.map_none]at hbd
     simp only[execOp,ho,Instr.sliceAt,Instr.slice,Sem.run_bind,Zai ht,Zai ha,Result.andThen_ok,hxv,asAddr,Sem.run_pure,ZaU hinf,hsz,Option.map_none]
     rw[hbd]
     simp
    ·split
     ·exact .aslc _ _ _ _ _ _ _ _ (by show m-l≤ln-l;omega) ⟨hl.1,fun s hs=>.inl (by show m-l=0;omega)⟩
     ·rw[ZaL]
      exact .aslc _ _ _ _ _ _ _ _ (by show m-l≤ln-l;omega) ⟨hl.1,fun s hs=>.inr ⟨(hl.2 s hs).1,by rw[(hl.2 s hs).2];simp only[Nat.mul_one];omega⟩⟩
  ·cases hv
 ·cases hv
theorem Zmk(H:HRel C h L w)(hρ:Rho C h L w ρ ev){t e:TypeId}{i:TypeInfo}{ln:Nat}{p:AV}{p':Operand}{lo hi:Option Opd}{lo' hi':Option Operand}(ho:o.op=.slice t p' lo' hi' none)(rp:Zao C h L w p (ev p'))
 (hlo:Ze7 lo lo'=true) (hhi:Ze7 hi hi'=true) (ht:C.P.underlying t=some (.array ln e)) (hinf:C.P.info? e=some i) (hsz:i.size=1)
 (hv:ZqY std ρ ln p lo hi=some (true,v)):Snd C h L w ev o h v:=by
 unfold ZqY at hv
 split at hv
 ·rename_i b1 l b2 m hl0 hm0
  generalize hxv:ev p'=pv at rp
  split at hv
  ·rename_i a j k off
   simp only[Option.some.injEq,Prod.mk.injEq,std_and]at hv
   obtain⟨⟨⟨rfl,rfl⟩,c1,c2⟩,rfl⟩:=hv
   have c1:l≤m:=by simpa[std]using c1
   have c2:m≤ln:=by simpa[std]using c2
   have e2:=Zbi hρ hlo hl0 rfl
   have e3:=Zbi hρ hhi hm0 rfl
   have hbd:=Zct (P:=C.P) (w:=w) (ev:=ev) (b:=false) (ln:=ln) (cap:=ln) (mx:=none) e2 e3 (.inl ⟨rfl,rfl⟩) (.inl rfl) c1 c2 (Nat.le_refl _)
   cases rp with
   |ptr _ _ _ _ g oo hl=>
    refine .pure H (r:=.slice (some (if ln=l then⟨g,oo,none⟩else(⟨g,oo,none⟩:Addr).add (l*1))) (m-l) (ln-l)) ?_ ?_
    ·simp only[Option.map_none]at hbd
     simp only[execOp,ho,Instr.sliceAt,Instr.sureAddr,Sem.run_bind,Zai ht,Result.andThen_ok,hxv,Sem.run_pure,ZaU hinf,hsz,Option.map_none]
     rw[hbd]
     simp
    ·split
     ·exact .aslc _ _ _ _ _ _ _ _ (by show m-l≤ln-l;omega) ⟨hl.1,fun s hs=>.inl (by show m-l=0;omega)⟩
     ·rw[ZaL]
      exact .aslc _ _ _ _ _ _ _ _ (by show m-l≤ln-l;omega) ⟨hl.1,fun s hs=>.inr ⟨(hl.2 s hs).1,by rw[(hl.2 s hs).2];simp only[Nat.mul_one];omega⟩⟩
  ·cases hv
 ·cases hv
theorem Zj0(H:HRel C h L w)(hρ:Rho C h L w ρ ev){t:TypeId}{x:AV}{x':Operand}{lo hi:Option Opd}{lo' hi':Option Operand}(ho:o.op=.slice t x' lo' hi' none)(rx:Zao C h L w x (ev x'))
 (hlo:Ze7 lo lo'=true) (hhi:Ze7 hi hi'=true) (ht:C.P.underlying t=some .string) (hv:ZmX std ρ x lo hi=some (true,v)):Snd C h L w ev o h v:=by
 unfold ZmX at hv
 split at hv
 ·rename_i xs
  split at hv
  ·rename_i b1 l b2 m hl0 hm0
   simp only[Option.some.injEq,Prod.mk.injEq,std_and]at hv
   obtain⟨⟨⟨rfl,rfl⟩,c1,c2⟩,rfl⟩:=hv
   have c1:l≤m:=by simpa[std]using c1
   have c2:m≤xs.length:=by simpa[std]using c2
   have e2:=Zbi hρ hlo hl0 rfl
   have e3:=Zbi hρ hhi hm0 rfl
   have hbd:=Zct (P:=C.P) (w:=w) (ev:=ev) (b:=false) (ln:=xs.length) (cap:=xs.length) (mx:=none) e2 e3 (.inl ⟨rfl,rfl⟩) (.inl rfl) c1 c2 (Nat.le_refl _)
   have hsz:(⟨xs.toArray⟩:ByteArray).size=xs.length:=rfl
   have hex:(⟨xs.toArray⟩:ByteArray).extract l m=⟨(sub3 xs l (m-l)).toArray⟩:=by
    apply ByteArray.ext
    simp[sub3]
   refine .pure H (r:=.string ⟨(sub3 xs l (m-l)).toArray⟩) ?_ (.str _)
   simp only[Option.map_none]at hbd
   simp only[execOp,ho,Instr.sliceAt,Instr.slice,Sem.run_bind,Zai ht,Result.andThen_ok,ZgS rx,Option.map_none,hsz,Option.isSome_none,Bool.false_eq_true,if_false]
   rw[hbd]
   simp[hex]
  ·cases hv
 ·cases hv
end
end Go.Proofs.Ytbbemleognkdhaa
