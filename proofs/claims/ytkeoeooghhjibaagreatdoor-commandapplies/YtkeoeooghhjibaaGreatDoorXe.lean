/- Rows under the plain arithmetic; reading what a slice holds. No condition. -/
import Derived.Test.YtkeoeooghhjibaaGreatDoorXc
namespace Go.Proofs.YtkeoeooghhjibaaGreatDoor
open Go.RowKit (Below)
mutual
theorem Zf2:∀ {s t:Sh},Zb6 s t=true→s=t
 | .int k, .int k',h=>by simp only[Zb6,decide_eq_true_eq]at h;rw[h]
 | .bool, .bool,_=>rfl
 | .str, .str,_=>rfl
 | .flt k, .flt k',h=>by simp only[Zb6,decide_eq_true_eq]at h;rw[h]
 | .ints k, .ints k',h=>by simp only[Zb6,decide_eq_true_eq]at h;rw[h]
 | .big s, .big t,h=>by simp only[Zb6]at h;rw[Zf2 h]
 | .agg ss, .agg ts,h=>by simp only[Zb6]at h;rw[Zpr h]
 | .int _, .bool,h=>by simp[Zb6]at h
 | .int _, .str,h=>by simp[Zb6]at h
 | .int _, .flt _,h=>by simp[Zb6]at h
 | .int _, .ints _,h=>by simp[Zb6]at h
 | .int _, .big _,h=>by simp[Zb6]at h
 | .int _, .agg _,h=>by simp[Zb6]at h
 | .bool, .int _,h=>by simp[Zb6]at h
 | .bool, .str,h=>by simp[Zb6]at h
 | .bool, .flt _,h=>by simp[Zb6]at h
 | .bool, .ints _,h=>by simp[Zb6]at h
 | .bool, .big _,h=>by simp[Zb6]at h
 | .bool, .agg _,h=>by simp[Zb6]at h
 | .str, .int _,h=>by simp[Zb6]at h
 | .str, .bool,h=>by simp[Zb6]at h
 | .str, .flt _,h=>by simp[Zb6]at h
 | .str, .ints _,h=>by simp[Zb6]at h
 | .str, .big _,h=>by simp[Zb6]at h
 | .str, .agg _,h=>by simp[Zb6]at h
 | .flt _, .int _,h=>by simp[Zb6]at h
 | .flt _, .bool,h=>by simp[Zb6]at h
 | .flt _, .str,h=>by simp[Zb6]at h
 | .flt _, .ints _,h=>by simp[Zb6]at h
 | .flt _, .big _,h=>by simp[Zb6]at h
 | .flt _, .agg _,h=>by simp[Zb6]at h
 | .ints _, .int _,h=>by simp[Zb6]at h
 | .ints _, .bool,h=>by simp[Zb6]at h
 | .ints _, .str,h=>by simp[Zb6]at h
 | .ints _, .flt _,h=>by simp[Zb6]at h
 | .ints _, .big _,h=>by simp[Zb6]at h
 | .ints _, .agg _,h=>by simp[Zb6]at h
 | .big _, .int _,h=>by simp[Zb6]at h
 | .big _, .bool,h=>by simp[Zb6]at h
 | .big _, .str,h=>by simp[Zb6]at h
 | .big _, .flt _,h=>by simp[Zb6]at h
 | .big _, .ints _,h=>by simp[Zb6]at h
 | .big _, .agg _,h=>by simp[Zb6]at h
 | .agg _, .int _,h=>by simp[Zb6]at h
 | .agg _, .bool,h=>by simp[Zb6]at h
 | .agg _, .str,h=>by simp[Zb6]at h
 | .agg _, .flt _,h=>by simp[Zb6]at h
 | .agg _, .ints _,h=>by simp[Zb6]at h
 | .agg _, .big _,h=>by simp[Zb6]at h
theorem Zpr:∀ {s t:List Sh},ZpG s t=true→s=t
 |[],[],_=>rfl
 |s::ss,t::ts,h=>by
  simp only[ZpG]at h
  split at h
  ·rename_i e;rw[Zf2 e,Zpr h]
  ·cases h
 |[],_::_,h=>by simp[ZpG]at h
 |_::_,[],h=>by simp[ZpG]at h
end
theorem Zj8{s:Sh}{v:AV}(h:ZrH s v=true):s.view1 v=v:=by
 unfold ZrH at h
 split at h
 ·have:=of_decide_eq_true h;subst this;rfl
 ·rfl
 ·rfl
 ·have:=of_decide_eq_true h;subst this;rfl
 ·have:=of_decide_eq_true h;subst this;rfl
 ·have:=Zf2 h;subst this;rfl
 ·cases h
theorem ZjT:∀ {ss:List Sh} {xs ys:zA} {i:Nat} {zs:zA},ZqH ss xs=true→zs=ys++xs→ys.length=i→Zfa ss i (.agg (.gen zs))=xs
 |[],[],_,_,_,_,_,_=>rfl
 |s::ss,x::xs,ys,i,zs,h,e,hi=>by
  simp only[ZqH]at h
  split at h
  ·rename_i h1
   have hx:(AV.agg (.gen zs)).cellAt i=x:=by simp[AV.cellAt,e,←hi]
   simp only[Zfa,hx,Zj8 h1]
   rw[ZjT (ys:=ys++[x]) h (by rw[e];simp) (by simp[hi])]
  ·cases h
 |[],_::_,_,_,_,h,_,_=>by simp[ZqH]at h
 |_::_,[],_,_,_,h,_,_=>by simp[ZqH]at h
theorem ZfC{s:Sh}{v:AV}(h:ZBC s v=true):s.view v=v:=by
 unfold ZBC at h
 split at h
 ·rename_i ss xs
  simp only[Sh.view]
  have e:=ZjT (ss:=ss) (xs:=xs) (ys:=[]) (i:=0) (zs:=xs) h rfl rfl
  rw[e]
 ·cases h
 ·rename_i hne
  have:=Zj8 h
  cases s with
  |agg ss=>simp[ZrH]at h
  |_=>simp only[Sh.view];exact this
theorem Zei{s:Sh} :∀ {xs:zA},ZpX s xs=true→xs.map s.view=xs
 |[],_=>rfl
 |x::xs,h=>by
  simp only[ZpX]at h
  split at h
  ·rename_i h1;rw[List.map_cons,ZfC h1,Zei h]
  ·cases h
theorem Zmh:∀(ss:List Sh) (i:Nat) (v:AV),(Zfa ss i v).length=ss.length
 |[],_,_=>rfl
 |s::ss,i,v=>by simp[Zfa,Zmh ss]
theorem ZdP(s:Sh)(v:AV):(s.view1 v).single=true:=by cases s<;>rfl
theorem Zse(s:Sh)(v:AV):(s.view v).bx=true∧(s.view v).flat.length=s.len:=by
 cases s with
 |agg ss=>exact⟨rfl,Zmh ss 0 v⟩
 |_=>exact⟨rfl,rfl⟩
theorem Row.len_std(r:Row):r.len std=r.elems.length:=by cases r<;>simp[Row.len,Row.elems,std]
theorem Row.get_std{r:Row}{j:Nat}(hj:j<r.elems.length):r.elems[j]? =some (r.get std j):=by
 cases r with
 |gen xs=>simp only[Row.elems]at hj ⊢;simp[Row.get,List.getD_eq_getElem?_getD,List.getElem?_eq_getElem hj]
 |ints k l=>simp only[Row.elems,List.length_map]at hj;simp[Row.elems,Row.get,std,List.getElem?_eq_getElem hj]
 |flts k l=>simp only[Row.elems,List.length_map]at hj;simp[Row.elems,Row.get,std,List.getElem?_eq_getElem hj]
 |big sh xs=>simp only[Row.elems,List.length_map]at hj;simp[Row.elems,Row.get,std,List.getElem?_eq_getElem hj]
 |refs a p=>simp only[Row.elems,List.length_map]at hj;simp[Row.elems,Row.get,std,List.getElem?_eq_getElem hj]
theorem Row.set_std(r:Row)(j:Nat)(v:AV):(r.set std j v).elems=r.elems.set j v:=by
 unfold Row.set
 split
 ·split
  ·rename_i hk;have:=of_decide_eq_true hk;subst this;simp[Row.elems,std]
  ·rfl
 ·split
  ·rename_i hk;have:=of_decide_eq_true hk;subst this;simp[Row.elems,std]
  ·rfl
 ·split
  ·rename_i hk;simp only[Row.elems,std,List.map_set,ZfC hk]
  ·rfl
 ·split
  ·rename_i hk;have:=Nat.eq_of_beq_eq_true hk;subst this;simp[Row.elems,std,List.map_set]
  ·rfl
 ·rfl
theorem Row.app_std(r s:Row):(r.app std s).elems=r.elems++s.elems:=by
 unfold Row.app
 split
 ·simp[Row.elems]
 ·simp[Row.elems]
 ·split
  ·rename_i hk;have:=of_decide_eq_true hk;subst this;simp[Row.elems,std]
  ·rfl
 ·split
  ·rename_i hk;have:=of_decide_eq_true hk;subst this;simp[Row.elems,std]
  ·rfl
 ·split
  ·rename_i hk;have:=Zf2 hk;subst this;simp[Row.elems,std]
  ·rfl
 ·split
  ·rename_i hk;simp only[Row.elems,std,List.map_append,Zei hk]
  ·rfl
 ·split
  ·rename_i hk;simp only[Row.elems,std,List.map_append,Zei hk]
  ·rfl
 ·split
  ·rename_i hk;have:=Nat.eq_of_beq_eq_true hk;subst this;simp[Row.elems,std]
  ·rfl
 ·rfl
theorem Zbr{α β:Type}(f:α→β)(l:List α)(k n:Nat):(sub3 l k n).map f=sub3 (l.map f) k n:=by simp[sub3,List.map_take,List.map_drop]
theorem Row.sub_std(r:Row)(k n:Nat):(r.sub std k n).elems=sub3 r.elems k n:=by
 cases r with
 |gen xs=>rfl
 |ints kd l=>exact Zbr _ l k n
 |flts kd l=>exact Zbr _ l k n
 |big sh xs=>exact Zbr _ xs k n
 |refs a p=>exact Zbr _ p k n
theorem Zir{α:Type}(l:List α)(k:Nat):sub3 l 0 k=l.take k:=by simp[sub3]
theorem Ziv{α:Type}(l:List α)(k:Nat):sub3 l k l.length=l.drop k:=by simp[sub3];rw[List.take_of_length_le];simp
theorem Row.blit_std(r:Row)(k:Nat)(s:Row):(r.blit std k s).elems=r.elems.take k++s.elems++r.elems.drop (k+s.elems.length):=by
 unfold Row.blit
 split
 ·split
  ·rename_i hk;have:=of_decide_eq_true hk;subst this
   simp only[Row.elems,std,List.map_append,Zbr,List.length_map]
   rw[Zir,←Zbr,Ziv,List.map_drop]
  ·rfl
 ·split
  ·rename_i hk;have:=of_decide_eq_true hk;subst this
   simp only[Row.elems,std,List.map_append,Zbr,List.length_map]
   rw[Zir,←Zbr,Ziv,List.map_drop]
  ·rfl
 ·split
  ·rename_i hk;have:=Zf2 hk;subst this
   simp only[Row.elems,std,List.map_append,Zbr,List.length_map]
   rw[Zir,←Zbr,Ziv,List.map_drop]
  ·rfl
 ·simp[Row.elems]
 ·rfl
theorem Zj3{k:IntKind} :∀ {xs:zA} {l:zI},ZoL k xs=some l→l.map (.int k)=xs
 |[],l,h=>by cases h;rfl
 | .int k' n::r,l,h=>by
   simp only[ZoL]at h
   split at h
   ·rename_i hk
    have:=of_decide_eq_true hk;subst this
    split at h
    ·rename_i l' hl;cases h;simp[Zj3 hl]
    ·cases h
   ·cases h
theorem Zj7{k:FloatKind} :∀ {xs:zA} {l:List Nat},ZoY k xs=some l→l.map (.flt k)=xs
 |[],l,h=>by cases h;rfl
 | .flt k' n::r,l,h=>by
   simp only[ZoY]at h
   split at h
   ·rename_i hk
    have:=of_decide_eq_true hk;subst this
    split at h
    ·rename_i l' hl;cases h;simp[Zj7 hl]
    ·cases h
   ·cases h
theorem ZjY{a:Nat} :∀ {xs:zA} {l:List Nat},ZoF a xs=some l→l.map (.row a)=xs
 |[],l,h=>by cases h;rfl
 | .row b i::r,l,h=>by
   simp only[ZoF]at h
   split at h
   ·rename_i hk
    have:=Nat.eq_of_beq_eq_true hk;subst this
    split at h
    ·rename_i l' hl;cases h;simp[ZjY hl]
    ·cases h
   ·cases h
theorem ZdV(xs:zA):(ZnC xs).elems=xs:=by
 unfold ZnC
 split
 ·split
  ·split
   ·rename_i l hl;simp[Row.elems,ZjY hl]
   ·rfl
  ·rfl
 ·split
  ·rename_i l hl;simp[Row.elems,Zj3 hl]
  ·rfl
 ·split
  ·rename_i l hl;simp[Row.elems,Zj7 hl]
  ·rfl
 ·split
  ·split
   ·rename_i hc;exact Zei hc
   ·rfl
  ·rfl
 ·rfl
theorem ZfP(r:Row):(ZpR r).elems=r.elems:=by cases r<;>first |rfl |exact ZdV _
theorem ZbE(n:Nat)(v:AV):(ZnX std n v).elems=List.replicate n v:=by
 unfold ZnX
 split
 ·simp[Row.elems,std]
 ·simp[Row.elems,std]
 ·split
  ·split
   ·rename_i hc;simp[Row.elems,std,ZfC hc]
   ·rfl
  ·rfl
theorem Row.part_std{r:Row}{k n:Nat}(h:k+n≤r.elems.length):(r.part std k n).elems=sub3 r.elems k n:=by
 cases r with
 |gen xs=>rfl
 |ints kd l=>exact Zbr _ l k n
 |flts kd l=>exact Zbr _ l k n
 |big sh xs=>exact Zbr _ xs k n
 |refs a p=>exact Zbr _ p k n
theorem Row.sing_std{r:Row}(h:r.sing=true):∀x∈r.elems,x.single=true:=by
 cases r with
 |gen xs=>exact List.all_eq_true.1 h
 |ints k l=>intro x hx;simp[Row.elems]at hx;obtain⟨_,_,rfl⟩:=hx;rfl
 |flts k l=>intro x hx;simp[Row.elems]at hx;obtain⟨_,_,rfl⟩:=hx;rfl
 |refs a p=>intro x hx;simp[Row.elems]at hx;obtain⟨_,_,rfl⟩:=hx;rfl
 |big sh xs=>
  intro x hx;simp[Row.elems]at hx;obtain⟨y,_,rfl⟩:=hx
  cases sh with
  |agg ss=>cases h
  |_=>simp only[Sh.view];exact ZdP _ _
theorem Zbc(x:AV):Zac std x=x.flat.length:=by cases x<;>first |rfl |exact Row.len_std _
theorem Row.fits_std{r:Row}{sz:Nat}(h:r.fits std sz=true):∀x∈r.elems,x.bx=true∧x.flat.length=sz:=by
 cases r with
 |gen xs=>
  intro x hx
  have:=List.all_eq_true.1 h x hx
  simp only[Bool.and_eq_true,Nat.beq_eq,Zbc]at this
  exact this
 |ints k l=>intro x hx;simp[Row.elems]at hx;obtain⟨_,_,rfl⟩:=hx;exact⟨rfl,(by simpa[Row.fits]using h:sz=1).symm⟩
 |flts k l=>intro x hx;simp[Row.elems]at hx;obtain⟨_,_,rfl⟩:=hx;exact⟨rfl,(by simpa[Row.fits]using h:sz=1).symm⟩
 |refs a p=>intro x hx;simp[Row.elems]at hx;obtain⟨_,_,rfl⟩:=hx;exact⟨rfl,(by simpa[Row.fits]using h:sz=1).symm⟩
 |big sh xs=>
  intro x hx;simp[Row.elems]at hx;obtain⟨y,_,rfl⟩:=hx
  obtain⟨h1,h2⟩:=Zse sh y
  exact⟨h1,h2.trans (by simpa[Row.fits]using h)⟩
section
variable {C:Ctx}{h:Zad}{L:Lay}{w:World}
theorem HRel.rowAt(H:HRel C h L w){a i:Nat}{e sz:Nat}{r:Row}(hb:blk h a i=.row e sz r):(blk h a i).tag=some (sz,r.elems.length)∧0<sz∧L.size a i≤maxLen∧r.elems.length≤L.size a i∧(∀x∈r.elems,x.flat.length=sz):=by
 have:=H.blks a i
 rw[hb]at this
 obtain⟨h0,h1,h2,h3,_⟩:=this
 exact⟨by rw[hb];rfl,h0,h1,h2,h3⟩
theorem HRel.curAt(H:HRel C h L w){a i:Nat}{e sz:Nat}{r:Row}(hb:blk h a i=.row e sz r)(hn:L.size a i≠0):Plc h L a i∧
 ∃cur:Array Value,w.heap[L.loc a i]? =some (.cells cur e (0,0))∧cur.size=L.size a i*sz∧RelL w (Zaz C h L) h L (Zai r.elems) (cur.toList.take (r.elems.length*sz))∧
  (∀c∈cur.toList.take (r.elems.length*sz),c.oneCell'=true)∧∀(j:Nat) (v:Value),(cur.toList.take (r.elems.length*sz))[j]? =some v→w.cell? ((⟨L.loc a i,0,none⟩:Addr).add j)=some v:=by
 have:=H.blks a i
 rw[hb]at this
 obtain⟨_,_,_,_,hcur⟩:=this
 obtain⟨cur,h4,h5,h6,h7⟩:=hcur hn
 refine⟨Plc.of (by rw[hb];rfl) (.inr hn),cur,h4,h5,h6,h7,fun j v hj=>?_⟩
 rw[Zbn,Nat.zero_add,cell_of_row w _ j cur e (0,0) h4]
 rw[List.getElem?_take]at hj
 split at hj
 ·simpa using hj
 ·cases hj
theorem HRel.tagAt(H:HRel C h L w){a i:Nat}{e sz:Nat}{r:Row}(hb:blk h a i=.row e sz r):(blk h a i).tag=some (sz,r.elems.length):=(H.rowAt hb).1
theorem std_and{a b:Bool} :Zag a b=true↔a=true∧b=true:=by cases a<;>simp[Zag]
theorem Zcd(H:HRel C h L w){av:AV}{v:Value}(hr:ZaH C h L w av v){r:Row}(hc:ZbP std h av=some (true,r)):
 ∃ad n c,v=.slice ad n c∧n=r.elems.length∧n≤c∧
  (∀a',ad=some a'→r.elems≠[]→∃cs:List Value,cs.length=(Zai r.elems).length∧(∀c∈cs,c.oneCell'=true)∧(∀(j:Nat) (v:Value),cs[j]? =some v→w.cell? (a'.add j)=some v)∧
    RelL w (Zaz C h L) h L (Zai r.elems) cs∧a'.block<w.heap.size)∧(ad=none→r.elems=[])∧(∃sz,∀x∈r.elems,x.flat.length=sz):=by
 unfold ZbP at hc
 split at hc
 ·cases hc
  cases hr with
  |nil _ a c he=>exact⟨a,0,c,rfl,by rw[he];rfl,Nat.zero_le _,fun a' _ hne=>absurd he hne,fun _=>he,0,by rw[he];simp⟩
  |list _ xs hx ad n cap sz cs hb hok hn hcap hsz hl h1 hcl hp hrr=>subst hx;exact⟨some ad,n,cap,rfl,hn,hcap,fun a' e _=>by cases e;exact⟨cs,hl,h1,hcl,⟨hl.symm,hrr⟩,hb⟩,(fun e=>by cases e),sz,hsz⟩
 ·cases hc
  cases hr
  exact⟨none,0,0,rfl,rfl,Nat.le_refl _,(fun a' e=>by cases e),fun _=>rfl,0,by simp[Row.elems]⟩
 ·rename_i a i
  split at hc
  ·rename_i e sz r' hb
   cases hc
   obtain⟨ht,h0,h1,h2,h3⟩:=H.rowAt hb
   cases hr with
   |row _ _ ad n c hn hl=>
    obtain⟨had,rfl,rfl⟩:=hl.2 _ ht
    have hz:r.elems≠[]→L.size a i≠0:=fun hne=>by have:=List.length_pos_iff.2 hne;omega
    refine⟨_,_,_,rfl,rfl,hn,fun a' e hne=>?_,fun e=>?_,sz,h3⟩
    ·subst e
     obtain⟨hpl,cur,h4,h5,h6,h7,h8⟩:=H.curAt hb (hz hne)
     have e:=had (hz hne)
     simp only[zS]at e
     subst e
     exact⟨_,h6.1.symm,h7,h8,h6,(H.live a i hpl).2⟩
    ·by_cases hne:r.elems=[]
     ·exact hne
     ·have:=had (hz hne);rw[e]at this;cases this
  ·cases hc
 ·rename_i a i k n cap
  split at hc
  ·rename_i e sz r' hb
   simp only[zS,zP]at hc
   obtain⟨hkn,rfl⟩:=hc
   have hkn:k+n≤r'.elems.length:=by rw[Row.len_std]at hkn;simpa[std]using hkn
   obtain⟨ht,h0,h1,h2,h3⟩:=H.rowAt hb
   have hlen:(r'.sub std k n).elems.length=n:=by rw[Row.sub_std];simp[sub3];omega
   have hsub:∀x∈(r'.sub std k n).elems,x.flat.length=sz:=fun x hx=>by
    rw[Row.sub_std]at hx;exact h3 x (List.mem_of_mem_drop (List.mem_of_mem_take hx))
   cases hr with
   |slc _ _ _ _ _ ad c hn hl=>
    refine⟨_,_,_,rfl,hlen.symm,hn,fun a' e hne=>?_,(fun e=>?_),sz,hsub⟩
    rotate_left
    ·rcases hl.2 _ ht with⟨_,rfl,_⟩ |⟨_,rfl⟩ |⟨h9,_⟩
     ·exact List.eq_nil_of_length_eq_zero hlen
     ·exact List.eq_nil_of_length_eq_zero (by omega)
     ·rw[e]at h9;cases h9
    subst e
    rcases hl.2 _ ht with⟨_,rfl,_⟩ |⟨_,rfl⟩ |⟨h9,h10,_⟩
    ·exact absurd (List.eq_nil_of_length_eq_zero hlen) hne
    ·exact absurd (List.eq_nil_of_length_eq_zero (by omega)) hne
    ·have:=List.length_pos_iff.2 hne
     obtain⟨hpl,cur,h4,h5,h6,h7,h8⟩:=H.curAt hb (by omega)
     simp only[zS]at h9
     subst h9
     have hfl:Zai (r'.sub std k n).elems=((Zai r'.elems).drop (k*sz)).take (n*sz):=by
      rw[Row.sub_std];unfold sub3
      rw[Za8 _ n (fun x hx=>h3 x (List.mem_of_mem_drop hx)),Zbh _ k h3]
     refine⟨((cur.toList.take (r'.elems.length*sz)).drop (k*sz)).take (n*sz),?_,fun c hc=>h7 c (List.mem_of_mem_drop (List.mem_of_mem_take hc)),fun j v hj=>?_,by rw[hfl];exact h6.part _ _,(H.live a i hpl).2⟩
     ·rw[hfl];simp only[List.length_take,List.length_drop,h6.1]
     ·rw[List.getElem?_take]at hj
      split at hj
      ·rw[List.getElem?_drop]at hj
       have:=h8 _ v hj
       rw[Zbn,Nat.zero_add]at this
       rw[Zbn];exact this
      ·cases hj
  ·cases hc
 ·rename_i a i k off n
  split at hc
  ·rename_i e sz r' hb
   split at hc
   ·rename_i x hx
    simp only[zS,zP,std_and]at hc
    obtain⟨⟨hk,hon,hsg⟩,hrr⟩:=hc
    have hk:k<r'.elems.length:=by rw[Row.len_std]at hk;simpa[std]using hk
    have hon:off+n≤x.elems.length:=by rw[Row.len_std]at hon;simpa[std]using hon
    have hre:r.elems=sub3 x.elems off n:=by rw[←Row.part_std hon,←hrr,ZfP]
    obtain⟨ht,h0,h1,h2,h3⟩:=H.rowAt hb
    obtain⟨hpl,cur,h4,h5,h6,h7,h8⟩:=H.curAt hb (by omega)
    have hget:=Row.get_std hk
    rw[hx]at hget
    have hxl:x.elems.length=sz:=by have:=h3 _ (List.mem_of_getElem? hget);simpa[AV.flat]using this
    have hlen:r.elems.length=n:=by rw[hre];simp[sub3];omega
    have hone:∀y∈r.elems,y.single=true:=fun y hy=>by rw[hre]at hy;exact Row.sing_std hsg y (List.mem_of_mem_drop (List.mem_of_mem_take hy))
    have hfl:=Zbo hone
    cases hr with
    |aslc _ _ _ _ _ g o c hn hl=>
     refine⟨_,_,_,rfl,hlen.symm,hn,fun a' e hne=>?_,(fun e=>by cases e),1,fun y hy=>by rw[ZbG (hone y hy)];rfl⟩
     cases e
     rcases hl.2 _ ht with rfl |⟨rfl,rfl⟩
     ·exact absurd (List.eq_nil_of_length_eq_zero hlen) hne
     ·have hsubE:∀j,j<sz→(Zai r'.elems)[k*sz+j]? =x.elems[j]?:=fun j hj=>by
       have:=ZeJ h3 hget j hj;simpa[AV.flat]using this
      have hpart:Zai r.elems=((Zai r'.elems).drop (k*sz+off)).take n:=by
       rw[hfl,hre];unfold sub3
       apply List.ext_getElem?
       intro j
       rw[List.getElem?_take,List.getElem?_take]
       split
       ·rw[List.getElem?_drop,List.getElem?_drop,Nat.add_assoc,hsubE _ (by omega)]
       ·rfl
      refine⟨((cur.toList.take (r'.elems.length*sz)).drop (k*sz+off)).take n,?_,fun c hc=>h7 c (List.mem_of_mem_drop (List.mem_of_mem_take hc)),fun j v hj=>?_,by rw[hpart];exact h6.part _ _,(H.live a i hpl).2⟩
      ·rw[hpart];simp only[List.length_take,List.length_drop,h6.1]
      ·rw[List.getElem?_take]at hj
       split at hj
       ·rw[List.getElem?_drop]at hj
        have:=h8 _ v hj
        rw[Zbn,Nat.zero_add]at this
        rw[Zbn];exact this
       ·cases hj
   ·cases hc
  ·cases hc
 ·split at hc
  ·rename_i ad c
   simp only[zS,zP,true_and]at hc
   subst hc
   cases hr
   exact⟨some ad,0,c,rfl,rfl,Nat.zero_le _,fun a' _ hne=>absurd rfl hne,(fun e=>by cases e),0,fun x hx=>by cases hx⟩
  ·cases hc
 ·cases hc
end
end Go.Proofs.YtkeoeooghhjibaaGreatDoor
namespace Go.Proofs.YtkeoeooghhjibaaGreatDoor
open Go.RowKit (Below)
theorem Step.refl(w:World)(ok:Nat→Prop)(h:Zad)(L:Lay):Step w ok h L w ok h L:=⟨Nat.le_refl _,fun _ _ h=>⟨h,rfl⟩,fun _=>Nat.le_refl _,fun _ _ _ _ h=>⟨h,rfl,rfl⟩⟩
def Snd(C:Ctx)(h:Zad)(L:Lay)(w:World)(ev:Operand→Value)(o:Oper)(h':Zad)(v:AV):Prop:=
 ∃w' L' r,((execOp ev o).run C.P w=.ok (.value r) w'∨((execOp ev o).run C.P w=.ok .skip w'∧o.dst=none))∧Step w (Zaz C h L) h L w' (Zaz C h' L') h' L'∧HRel C h' L' w'∧(o.dst≠none→ZaH C h' L' w' v r)
structure Rho (C:Ctx) (h:Zad) (L:Lay) (w:World) (ρ:Opd→AV) (ev:Operand→Value):Prop where
 rel:∀x y,Za6 x y=true→ZaH C h L w (ρ x) (ev y)
 cst:∀v,ev (.const v)=v
 fnc:∀f,ev (.func f)=.func (.func f) #[] #[]
section
variable {C:Ctx}{o:Oper}{ρ:Opd→AV}{ev:Operand→Value}{h h':Zad}{w w':World}{L:Lay}{v:AV}
theorem Snd.pure(H:HRel C h L w){r:Value}(hr:(execOp ev o).run C.P w=.ok (.value r) w)(hv:ZaH C h L w v r):Snd C h L w ev o h v:=
 ⟨w,L,r, .inl hr,Step.refl _ _ _ _,H,fun _=>hv⟩
theorem Zbm{k n}{r:Value}(hr:ZaH C h L w (.int k n) r):r=.int k n:=by cases hr;rfl
theorem Ze6{b}{r:Value}(hr:ZaH C h L w (.bool b) r):r=.bool b:=by cases hr;rfl
theorem Zl9{b}{r:Value}(hr:ZaH C h L w (.str b) r):r=.string ⟨b.toArray⟩:=by cases hr;rfl
theorem Zeb{k b}{r:Value}(hr:ZaH C h L w (.flt k b) r):r=.float k b:=by cases hr;rfl
theorem ZDV{r:Value}(hr:ZaH C h L w .und r):r=undef:=by cases hr;rfl
theorem Zdr{k:IntKind}{n:Int}(h1:std.inR k n=true):k.wrap n=n:=by
 obtain⟨h1,h2⟩:k.min≤n∧n≤k.max:=of_decide_eq_true h1
 cases k<;>simp[IntKind.min,IntKind.max,IntKind.signed,IntKind.bits]at h1 h2<;>simp only[IntKind.wrap,IntKind.bits,IntKind.signed]<;>simp<;>first |omega |(split<;>omega)
variable {P:Program}
theorem Zi0(op:BinOp)(t:TypeId)(x y:Operand)(k k':IntKind)(a b:Int)(w:World):(eqGuard op t x y (.int k a) (.int k' b)).run P w=.ok () w:=by
 unfold eqGuard;cases op<;>rfl
theorem Znn(op:BinOp)(t:TypeId)(x y:Operand)(a b:ByteArray)(w:World):(eqGuard op t x y (.string a) (.string b)).run P w=.ok () w:=by
 unfold eqGuard;cases op<;>rfl
theorem Zm8(op:BinOp)(t:TypeId)(x y:Operand)(k k':FloatKind)(a b:Nat)(w:World):(eqGuard op t x y (.float k a) (.float k' b)).run P w=.ok () w:=by
 unfold eqGuard;cases op<;>rfl
theorem Zmo(op:BinOp)(t:TypeId)(x y:Operand)(a b:Bool)(w:World):(eqGuard op t x y (.bool a) (.bool b)).run P w=.ok () w:=by
 unfold eqGuard;cases op<;>rfl
theorem ZfA(op:BinOp)(t:TypeId)(x y:Operand)(a b:Option Addr)(n c n' c':Nat)(w:World):(eqGuard op t x y (.slice a n c) (.slice b n' c')).run P w=.ok () w:=by
 unfold eqGuard;cases op<;>rfl
theorem Zrg{a b:Bool}(h:Zag a b=true):a=true∧b=true:=std_and.1 h
theorem ZpQ{op:BinOp}{k:IntKind}{a b:Int}(hv:ZKG std op k a b=some (true,v))(t:TypeId)(w:World):
 ∃r,(Go.binOp op t (.int k a) (.int k b)).run P w=.ok r w∧∀w ok h L,Rel w ok h L v r:=by
 cases op<;>simp only[ZKG,zS,zP,reduceCtorEq]at hv
 case add=>obtain⟨h1,rfl⟩:=hv;exact⟨.int k (k.wrap (a+b)),by simp[Go.binOp,Op.intArith],fun _ _ _ _=>by rw[show k.wrap (a+b)=a+b from Zdr h1];exact .int _ _⟩
 case sub=>obtain⟨h1,rfl⟩:=hv;exact⟨.int k (k.wrap (a-b)),by simp[Go.binOp,Op.intArith],fun _ _ _ _=>by rw[show k.wrap (a-b)=a-b from Zdr h1];exact .int _ _⟩
 case mul=>obtain⟨h1,rfl⟩:=hv;exact⟨.int k (k.wrap (a*b)),by simp[Go.binOp,Op.intArith],fun _ _ _ _=>by rw[show k.wrap (a*b)=a*b from Zdr h1];exact .int _ _⟩
 case quo=>
  obtain⟨h1,rfl⟩:=hv
  obtain⟨h0,h1⟩:=Zrg h1
  have h0:b≠0:=by simpa[std]using h0
  exact⟨_,by simp[Go.binOp,Op.intDiv,h0];rfl,fun _ _ _ _=>by rw[show k.wrap (a.tdiv b)=a.tdiv b from Zdr h1];exact .int _ _⟩
 case rem=>
  obtain⟨h0,rfl⟩:=hv
  have h0:b≠0:=by simpa[std]using h0
  exact⟨_,by simp[Go.binOp,Op.intDiv,h0];rfl,fun _ _ _ _=>.int _ _⟩
 case and=>obtain⟨_,rfl⟩:=hv;exact⟨_,by simp[Go.binOp,Op.intBits];rfl,fun _ _ _ _=>.int _ _⟩
 case or=>obtain⟨_,rfl⟩:=hv;exact⟨_,by simp[Go.binOp,Op.intBits];rfl,fun _ _ _ _=>.int _ _⟩
 case xor=>obtain⟨_,rfl⟩:=hv;exact⟨_,by simp[Go.binOp,Op.intBits];rfl,fun _ _ _ _=>.int _ _⟩
 case andNot=>obtain⟨_,rfl⟩:=hv;exact⟨.int k (std.bits .andNot k a b),by simp only[Go.binOp,Op.intBits,ne_eq,not_true_eq_false,if_false];rfl,fun _ _ _ _=>.int _ _⟩
 case eql=>obtain⟨_,rfl⟩:=hv;exact⟨.bool (decide (a=b)),by simp[Go.binOp,Op.intCmp];rfl,fun _ _ _ _=>.bool _⟩
 case neq=>obtain⟨_,rfl⟩:=hv;exact⟨.bool (!decide (a=b)),by simp[Go.binOp,Op.intCmp];rfl,fun _ _ _ _=>.bool _⟩
 case lss=>obtain⟨_,rfl⟩:=hv;exact⟨.bool (decide (a<b)),by simp[Go.binOp,Op.intCmp],fun _ _ _ _=>.bool _⟩
 case leq=>obtain⟨_,rfl⟩:=hv;exact⟨.bool (decide (a≤b)),by simp[Go.binOp,Op.intCmp],fun _ _ _ _=>.bool _⟩
 case gtr=>obtain⟨_,rfl⟩:=hv;exact⟨.bool (decide (b<a)),by simp[Go.binOp,Op.intCmp],fun _ _ _ _=>.bool _⟩
 case geq=>obtain⟨_,rfl⟩:=hv;exact⟨.bool (decide (b≤a)),by simp[Go.binOp,Op.intCmp],fun _ _ _ _=>.bool _⟩
theorem Zp3{op:BinOp}{x y:List UInt8}(hv:ZJP std op x y=some (true,v))(t:TypeId)(w:World):
 ∃r,(Go.binOp op t (.string ⟨x.toArray⟩) (.string ⟨y.toArray⟩)).run P w=.ok r w∧∀w ok h L,Rel w ok h L v r:=by
 have hb:∀op,Go.binOp op t (.string ⟨x.toArray⟩) (.string ⟨y.toArray⟩)=Op.stringOp op ⟨x.toArray⟩ ⟨y.toArray⟩:=fun op=>by cases op<;>rfl
 rw[hb]
 cases op<;>simp only[ZJP,zS,zP,reduceCtorEq]at hv
 case add=>
  obtain⟨h1,rfl⟩:=hv
  have h1:x.length+y.length≤4294967296:=by simpa[std]using h1
  refine⟨.string ⟨(x++y).toArray⟩,?_,fun _ _ _ _=>.str _⟩
  have h1:¬((((⟨x.toArray⟩:ByteArray).size+(⟨y.toArray⟩:ByteArray).size:Nat):Int)>IntKind.i64.max):=by
   have hm:IntKind.i64.max=9223372036854775807:=by decide
   rw[hm]
   have e1:(⟨x.toArray⟩:ByteArray).size=x.length:=rfl
   have e2:(⟨y.toArray⟩:ByteArray).size=y.length:=rfl
   rw[e1,e2];omega
  have h2:(⟨x.toArray⟩++⟨y.toArray⟩:ByteArray)=⟨(x++y).toArray⟩:=by
   apply ByteArray.ext;simp
  simp only[Op.stringOp,if_neg h1,h2,Sem.run_pure]
 case eql=>obtain⟨_,rfl⟩:=hv;exact⟨.bool (x==y),by simp[Op.stringOp],fun _ _ _ _=>.bool _⟩
 case neq=>obtain⟨_,rfl⟩:=hv;exact⟨.bool (!(x==y)),by simp[Op.stringOp],fun _ _ _ _=>.bool _⟩
 case lss=>obtain⟨_,rfl⟩:=hv;exact⟨.bool (Op.bytesLess x y),by simp[Op.stringOp],fun _ _ _ _=>.bool _⟩
theorem ZqK{op:BinOp}{k:FloatKind}{x y:Nat}(hv:ZH8 std op k x y=some (true,v))(t:TypeId)(w:World):
 ∃r,(Go.binOp op t (.float k x) (.float k y)).run P w=.ok r w∧∀w ok h L,Rel w ok h L v r:=by
 cases op<;>simp only[ZH8,zS,zP,reduceCtorEq]at hv
 case add=>
  obtain⟨h1,rfl⟩:=hv
  obtain⟨r,hr⟩:=Option.isSome_iff_exists.1 h1
  have hr':k.format.add x y=some r:=hr
  exact⟨.float k r,by simp[Go.binOp,Op.floatArith,hr'],fun _ _ _ _=>by rw[hr];exact .flt _ _⟩
 case sub=>
  obtain⟨h1,rfl⟩:=hv
  obtain⟨r,hr⟩:=Option.isSome_iff_exists.1 h1
  have hr':k.format.sub x y=some r:=hr
  exact⟨.float k r,by simp[Go.binOp,Op.floatArith,hr'],fun _ _ _ _=>by rw[hr];exact .flt _ _⟩
 case eql=>obtain⟨_,rfl⟩:=hv;exact⟨_,by simp[Go.binOp,Op.floatCmp];rfl,fun _ _ _ _=>.bool _⟩
 case neq=>obtain⟨_,rfl⟩:=hv;exact⟨_,by simp[Go.binOp,Op.floatCmp];rfl,fun _ _ _ _=>.bool _⟩
 case lss=>obtain⟨_,rfl⟩:=hv;exact⟨_,by simp[Go.binOp,Op.floatCmp];rfl,fun _ _ _ _=>.bool _⟩
 case gtr=>obtain⟨_,rfl⟩:=hv;exact⟨_,by simp[Go.binOp,Op.floatCmp];rfl,fun _ _ _ _=>.bool _⟩
theorem ZsM(H:HRel C h L w){op:BinOp}{t ty:TypeId}{x y:AV}{x' y':Operand}(ho:o.op=.binOp op t x' y' ty)(rx:ZaH C h L w x (ev x'))(ry:ZaH C h L w y (ev y'))
 (hv:ZJs std op x y=some (true,v)):Snd C h L w ev o h v:=by
 unfold ZJs at hv
 split at hv
 ·rename_i k a k' b
  have key:∃r,(Go.binOp op t (.int k a) (.int k' b)).run C.P w=.ok r w∧∀w ok h L,Rel w ok h L v r:=by
   split at hv
   ·simp only[zS,zP,std_and]at hv
    obtain⟨⟨⟨h1,h2⟩,h3⟩,rfl⟩:=hv
    have h1:0≤b:=by simpa[std]using h1
    have h2:b.toNat<k.bits:=by simpa[std]using h2
    refine⟨.int k (k.wrap (a*2^b.toNat)),?_,fun _ _ _ _=>by rw[show k.wrap (a*2^b.toNat)=a*2^b.toNat from Zdr h3];exact .int _ _⟩
    simp[Go.binOp,Op.shift,Int.not_lt.2 h1,Nat.min_eq_left (Nat.le_of_lt h2)]
   ·simp only[zS,zP,std_and]at hv
    obtain⟨⟨h1,h2⟩,rfl⟩:=hv
    have h1:0≤b:=by simpa[std]using h1
    have h2:b.toNat<k.bits:=by simpa[std]using h2
    refine⟨.int k (a.fdiv (2^b.toNat)),?_,fun _ _ _ _=>.int _ _⟩
    simp[Go.binOp,Op.shift,Int.not_lt.2 h1,Nat.min_eq_left (Nat.le_of_lt h2)]
   ·split at hv
    ·rename_i hk
     have:=of_decide_eq_true hk;subst this
     exact ZpQ hv t w
    ·cases hv
  obtain⟨r,h1,h3⟩:=key
  refine .pure H (r:=r) ?_ (h3 _ _ _ _)
  simp[execOp,ho,Zbm rx,Zbm ry,Zi0,h1]
 ·rename_i p q
  obtain⟨r,h1,h3⟩:=Zp3 hv t w (P:=C.P)
  refine .pure H (r:=r) ?_ (h3 _ _ _ _)
  simp[execOp,ho,Zl9 rx,Zl9 ry,Znn,h1]
 ·split at hv
  ·rename_i hk
   have:=of_decide_eq_true hk;subst this
   obtain⟨r,h1,h3⟩:=ZqK hv t w (P:=C.P)
   refine .pure H (r:=r) ?_ (h3 _ _ _ _)
   simp[execOp,ho,Zeb rx,Zeb ry,Zm8,h1]
  ·cases hv
 ·cases hv
theorem Zqc(H:HRel C h L w){op:BinOp}{t ty:TypeId}{x y:AV}{x' y':Operand}(ho:o.op=.binOp op t x' y' ty)(rx:ZaH C h L w x (ev x'))(ry:ZaH C h L w y (ev y'))
 (hv:ZAn std op x y=some (true,v)):Snd C h L w ev o h v:=by
 unfold ZAn at hv
 split at hv
 ·rename_i k a k' b
  split at hv
  ·rename_i hk
   have:=of_decide_eq_true hk;subst this
   have key:∃r,(Go.binOp op t (.int k a) (.int k b)).run C.P w=.ok r w∧∀w ok h L,Rel w ok h L v r:=by
    split at hv
    ·simp only[zS,zP,true_and]at hv
     exact⟨.int k (k.wrap (a+b)),by simp[Go.binOp,Op.intArith],fun _ _ _ _=>by rw[←hv];exact .int _ _⟩
    ·simp only[zS,zP,true_and]at hv
     exact⟨.int k (k.wrap (a-b)),by simp[Go.binOp,Op.intArith],fun _ _ _ _=>by rw[←hv];exact .int _ _⟩
    ·simp only[zS,zP,true_and]at hv
     exact⟨.int k (k.wrap (a*b)),by simp[Go.binOp,Op.intArith],fun _ _ _ _=>by rw[←hv];exact .int _ _⟩
    ·cases hv
   obtain⟨r,h1,h3⟩:=key
   refine .pure H (r:=r) ?_ (h3 _ _ _ _)
   simp[execOp,ho,Zbm rx,Zbm ry,Zi0,h1]
  ·cases hv
 ·cases hv
theorem ZrB(H:HRel C h L w){ne:Bool}{op:BinOp}{t ty:TypeId}{a b:Bool}{x' y':Operand}(ho:o.op=.binOp op t x' y' ty)(hop:op=if ne then .neq else .eql)
 (ht:C.P.underlying t=some .bool) (rx:ZaH C h L w (.bool a) (ev x')) (ry:ZaH C h L w (.bool b) (ev y')):
 Snd C h L w ev o h (.bool (eqB std ne a b)):=by
 have e0:∀d w,(Op.equalIn (d+1) t (.bool a) (.bool b)).run C.P w=.ok (a==b) w:=fun d w=>by simp[Op.equalIn,run_underlying ht]
 have e:∀w,(Op.equal t (.bool a) (.bool b)).run C.P w=.ok (a==b) w:=fun w=>e0 9999 w
 refine .pure H (r:=.bool (if ne then !(a==b)else a==b)) ?_ (by cases ne<;>exact .bool _)
 subst hop
 cases ne<;>simp[execOp,ho,Ze6 rx,Ze6 ry,Zmo,Go.binOp,e]
theorem ZbB{t:TypeId}{i:TypeInfo}(hi:P.info? t=some i)(w:World):(sizeOf t).run P w=.ok i.size w:=by simp[sizeOf,typeInfo,hi]
theorem Zay{t:TypeId}{d:TypeDesc}(ht:P.underlying t=some d)(w:World):(underlying t).run P w=.ok d w:=run_underlying ht w
theorem Zfn{t:TypeId}{d:TypeDesc}{ag:Bool}(ht:P.underlying t=some d)(hd:Zba d=ag)(w:World):(isAgg t).run P w=.ok ag w:=by
 unfold isAgg
 rw[Sem.run_bind,run_underlying ht w]
 cases d<;>simp_all[Zba]
theorem Zc2{ad:Addr}{cs:List Value}(hc:∀(j:Nat) (v:Value),cs[j]? =some v→w.cell? (ad.add j)=some v){t:TypeId}{d:TypeDesc}{i:TypeInfo}{ag:Bool}{n off:Nat}
 (hd:P.underlying t=some d) (hag:Zba d=ag) (hi:P.info? t=some i) (hn:i.size=n) (hoff:off+n≤cs.length) (hne:ag=false→n=1):
 (loadVar t (ad.add off)).run P w=.ok (if ag then .agg ((cs.drop off).take n).toArray else cs.getD off undef) w:=by
 cases ag with
 |true=>
  have hl:=run_loadCells_list (P:=P) w (ad.add off) ((cs.drop off).take n) (fun j v hv=>by
   rw[Zgh]
   refine hc _ v ?_
   rw[List.getElem?_take]at hv
   split at hv
   ·simpa using hv
   ·cases hv)
  have hlen:((cs.drop off).take n).length=n:=by simp;omega
  rw[hlen]at hl
  simp[loadVar,Zfn hd hag,sizeOf,typeInfo,hi,hn,hl]
 |false=>
  have h1:=hne rfl
  subst h1
  have hv:cs[off]? =some (cs[off]'(by omega)):=List.getElem?_eq_getElem (by omega)
  have:=hc off _ hv
  simp only[loadVar,Sem.run_bind,Zfn hd hag,Result.andThen_ok,Bool.false_eq_true,if_false,run_load,this]
  simp[List.getD_eq_getElem?_getD,hv]
theorem ZiO{r:Row}{x:Value}(hr:ZaH C h L w (.agg r) x):∃vs:Array Value,x=.agg vs∧RelL w (Zaz C h L) h L r.elems vs.toList∧∀c∈vs,c.oneCell'=true:=by
 cases hr with |agg _ xs hx vs hl h1 hh=>subst hx;exact⟨vs,rfl,⟨by simpa using hl,fun j u v hu hv=>hh j u v hu (by simpa using hv)⟩,h1⟩
theorem ZkU{x:AV}{off:Nat}{r:Value}(hr:ZaH C h L w (.eptr x off) r):∃(ad:Addr) (cs:List Value),r=.pointer (some (ad.add off))∧ad.spot=none∧ad.block<w.heap.size∧Zaz C h L ad.block∧cs.length=x.flat.length∧
 (∀v∈cs,v.oneCell'=true)∧(∀(j:Nat) (v:Value),cs[j]? =some v→w.cell? (ad.add j)=some v)∧AV.pureL x.flat=true∧RelL w (Zaz C h L) h L x.flat cs:=by
 cases hr with
 |eptr _ _ ad cs hs hb hok hl h1 hc hp hrr=>exact⟨ad,cs,rfl,hs,hb,hok,hl,h1,hc,hp,hl.symm,hrr⟩
theorem ZnS{ag:Bool}{n off:Nat}{u:AV}{cs:List Value}(hr:RelL w (Zaz C h L) h L u.flat cs)(h1:∀v∈cs,v.oneCell'=true)(hv:ZAb std ag n off u=some (true,v))(hne:ag=false→n=1):
 off+n≤cs.length∧ZaH C h L w v (if ag then .agg ((cs.drop off).take n).toArray else cs.getD off undef):=by
 have one:off<u.flat.length→ZaH C h L w (u.flat.getD off .top) (cs.getD off undef):=fun hlt=>by
  refine hr.2 off _ _ (by rw[List.getD_eq_getElem?_getD,List.getElem?_eq_getElem hlt];rfl) (by rw[List.getD_eq_getElem?_getD,List.getElem?_eq_getElem (by rw[←hr.1];exact hlt)];rfl)
 have agr:∀r:Row,r.elems=(u.flat.drop off).take n→off+n≤u.flat.length→ZaH C h L w (.agg r) (.agg ((cs.drop off).take n).toArray):=fun r he hle=>by
  have hp:=hr.part off n
  rw[←he]at hp
  exact .agg r r.elems rfl _ (by simpa using hp.1) (fun c hc=>h1 c (List.mem_of_mem_drop (List.mem_of_mem_take (by simpa using hc)))) (fun j u v hu hv=>hp.2 j u v hu (by simpa using hv))
 unfold ZAb at hv
 split at hv
 ·rename_i x
  simp only[zS,zP]at hv
  obtain⟨hle,rfl⟩:=hv
  have hle:off+n≤x.elems.length:=by rw[Row.len_std]at hle;simpa[std]using hle
  exact⟨by rw[←hr.1];exact hle,agr _ (by rw[Row.sub_std];rfl) hle⟩
 ·rename_i hu
  simp only[zS,zP,std_and]at hv
  obtain⟨⟨e1,e2⟩,rfl⟩:=hv
  have e1:off=0:=by simpa[std]using e1
  have e2:n=1:=by simpa[std]using e2
  subst e1;subst e2
  have hf:u.flat=[u]:=ZbG (by cases u<;>first |rfl |exact(hu _ rfl).elim)
  exact⟨by rw[←hr.1,hf];simp,agr _ (by rw[hf];rfl) (by rw[hf];simp)⟩
 ·rename_i x
  simp only[zS,zP]at hv
  obtain⟨hle,rfl⟩:=hv
  have hle:off<x.elems.length:=by rw[Row.len_std]at hle;simpa[std]using hle
  have hn:=hne rfl
  subst hn
  have h2:=one hle
  rw[show (AV.agg x).flat=x.elems from rfl,List.getD_eq_getElem?_getD,Row.get_std hle]at h2
  exact⟨by rw[←hr.1];exact hle,h2⟩
 ·rename_i hu
  simp only[zS,zP]at hv
  obtain⟨e1,rfl⟩:=hv
  have e1:off=0:=by simpa[std]using e1
  subst e1
  have hn:=hne rfl
  subst hn
  have hf:u.flat=[u]:=ZbG (by cases u<;>first |rfl |exact(hu _ rfl).elim)
  have h2:=one (by rw[hf];simp)
  rw[hf]at h2
  exact⟨by rw[←hr.1,hf];simp,h2⟩
theorem Zpy(H:HRel C h L w){t:TypeId}{d:TypeDesc}{i:TypeInfo}{ag:Bool}{n:Nat}{p:AV}{pv:Value}(rp:ZaH C h L w p pv)
 (hd:C.P.underlying t=some d) (hag:Zba d=ag) (hi:C.P.info? t=some i) (hn:i.size=n) (hne:ag=false→n=1)
 (hv:Zjg std h ag n p=some (true,v)):∃r ad,pv=.pointer (some ad)∧(loadVar t ad).run C.P w=.ok r w∧ZaH C h L w v r:=by
 unfold Zjg at hv
 split at hv
 ·rename_i a j k off
  split at hv
  ·rename_i e sz r hb
   obtain⟨ht,h0,h1,h2,h3⟩:=H.rowAt hb
   cases rp with
   |ptr _ _ _ _ g oo hl=>
    obtain⟨rfl,rfl⟩:=hl.2 _ ht
    split at hv
    ·rename_i kd m hget
     simp only[zS,zP,std_and]at hv
     obtain⟨⟨⟨e1,e2⟩,e3,e5,e4⟩,hrv⟩:=hv
     have e5:0<n:=by simpa[std]using e5
     have e1:sz=1:=by simpa[std]using e1
     have e2:off=0:=by simpa[std]using e2
     have e3:k+n≤r.elems.length:=by rw[Row.len_std]at e3;simpa[std]using e3
     subst e1;subst e2
     obtain⟨hpl,cur,h4,h5,h6,h7,h8⟩:=H.curAt hb (by omega)
     have hone:=Row.sing_std e4
     have hfl:=Zbo hone
     have hcs:=Zc2 (P:=C.P) (w:=w) (ad:=⟨L.loc a j,0,none⟩) h8 hd hag hi hn (off:=k) (by rw[←h6.1,hfl];exact e3) hne
     rw[hag]at*
     have hp:=(h6.part k n)
     rw[hfl]at hp
     refine⟨.agg (((cur.toList.take (r.elems.length*1)).drop k).take n).toArray,_,rfl,?_,?_⟩
     ·rw[Zbn,Nat.zero_add]at hcs
      simpa using hcs
     ·have he:∃r2:Row,v=.agg r2∧r2.elems=sub3 r.elems k n:=by
       rw[←hrv]
       split
       ·rename_i hn1
        have hn1:n=1:=by simpa using hn1
        subst hn1
        refine⟨_,rfl,?_⟩
        have hg:=Row.get_std (r:=r) (j:=k) (by omega)
        rw[hget]at hg
        unfold sub3
        rw[List.drop_eq_getElem_cons (by omega)]
        rw[List.getElem?_eq_getElem (by omega)]at hg
        simp only[zS]at hg
        rw[hg];rfl
       ·refine⟨_,rfl,?_⟩
        rw[ZfP];exact Row.part_std e3
      obtain⟨r2,rfl,he⟩:=he
      exact .agg r2 r2.elems rfl _ (by rw[he];simpa[sub3]using hp.1) (fun c hc=>h7 c (List.mem_of_mem_drop (List.mem_of_mem_take (by simpa using hc)))) (fun j u v hu hv=>hp.2 j u v (by rw[he]at hu;exact hu) (by simpa using hv))
    ·split at hv
     ·rename_i b v' hc
      simp only[zS,zP,std_and]at hv
      obtain⟨⟨hk,rfl⟩,rfl⟩:=hv
      have hk:k<r.elems.length:=by rw[Row.len_std]at hk;simpa[std]using hk
      obtain⟨hpl,cur,h4,h5,h6,h7,h8⟩:=H.curAt hb (by omega)
      have hget:=Row.get_std hk
      have hulen:=h3 _ (List.mem_of_getElem? hget)
      have hge:k*sz+sz≤r.elems.length*sz:=by
       have:=Nat.mul_le_mul_right sz (Nat.succ_le_of_lt hk)
       rwa[Nat.succ_mul]at this
      have hrel:RelL w (Zaz C h L) h L (r.get std k).flat (((cur.toList.take (r.elems.length*sz)).drop (k*sz)).take sz):=by
       have hl6:=h6.1
       rw[Zax h3]at hl6
       refine⟨by rw[hulen];simp only[List.length_take,List.length_drop]at hl6 ⊢;omega,fun j u x hu hx=>?_⟩
       rw[List.getElem?_take]at hx
       split at hx
       ·rename_i hj
        rw[List.getElem?_drop]at hx
        exact h6.2 (k*sz+j) u x (by rw[ZeJ h3 hget j hj];exact hu) hx
       ·cases hx
      obtain⟨c1,c2⟩:=ZnS hrel (fun c hc=>h7 c (List.mem_of_mem_drop (List.mem_of_mem_take hc))) hc hne
      have hcs:=Zc2 (P:=C.P) (w:=w) (ad:=⟨L.loc a j,k*sz,none⟩) (cs:=((cur.toList.take (r.elems.length*sz)).drop (k*sz)).take sz) (fun j v hj=>by
       rw[List.getElem?_take]at hj
       split at hj
       ·rw[List.getElem?_drop]at hj
        have:=h8 _ v hj
        rw[Zbn,Nat.zero_add]at this
        rw[Zbn];exact this
       ·cases hj) hd hag hi hn (off:=off) c1 hne
      rw[Zbn]at hcs
      exact⟨_,_,rfl,hcs,c2⟩
     ·cases hv
  ·cases hv
 ·rename_i u off
  obtain⟨ad,cs,rfl,hsp,hb,hok,hl,h1,hc,hp,hrr⟩:=ZkU rp
  obtain⟨c1,c2⟩:=ZnS hrr h1 hv hne
  exact⟨_,_,rfl,Zc2 (P:=C.P) hc hd hag hi hn c1 hne,c2⟩
 ·cases hv
theorem Zfq{C:Ctx}{h:Zad}{L L':Lay}{g:Nat}(ho:Zaz C h L g):Zaz C [] L' g:=by
 rcases ho with ho |⟨h1,_⟩
 ·exact .inl ho
 ·exact .inr ⟨h1,fun a i ht=>absurd rfl ht.tag⟩
def nzV:AV→Bool
 | .row a _=>!Nat.beq a 0
 | .slc a _ _ _ _=>!Nat.beq a 0
 | .aslc a _ _ _ _=>!Nat.beq a 0
 | .ptr a _ _ _=>!Nat.beq a 0
 |_=>true
theorem Zzo{a:Nat}(h:(!Nat.beq a 0)=true):a≠0:=by rintro rfl;cases h
theorem HRel.far(H:HRel C h L w){a i:Nat}(ht:Plc h L a i)(ha:a≠0):C.n0≤L.loc a i:=by
 rcases H.home a i ht with h1 |⟨h1,_⟩
 ·exact h1
 ·exact absurd h1 ha
theorem Zfd(H:HRel C h L w){av:AV}{v:Value}(hr:ZaH C h L w av v){r:Row}(hc:ZbP std h av=some (true,r))(hz:nzV av=true):
 ∀a' n c,v=.slice (some a') n c→r.elems≠[]→Zaz C [] L a'.block:=by
 unfold ZbP at hc
 have tr:∀ {a i e sz:Nat} {q:Row},blk h a i=.row e sz q→a≠0→(L.size a i≠0→Zaz C [] L (L.loc a i))∧(blk h a i).tag=some (sz,q.elems.length)∧q.elems.length≤L.size a i:=fun hb ha=>
  ⟨fun hn=>.inr ⟨H.far (Plc.of (by rw[hb];rfl) (.inr hn)) ha,fun _ _ ht=>absurd rfl ht.tag⟩,by rw[hb];rfl,(H.rowAt hb).2.2.2.1⟩
 split at hc
 ·cases hc
  cases hr with
  |nil _ a c he=>exact fun a' n c _ hne=>absurd he hne
  |list _ xs hx ad n cap sz cs hb hok hn hcap hsz hl h1 hcl hp hrr=>exact fun a' n c e _=>by cases e;exact Zfq hok
 ·cases hc
  exact fun a' n c _ hne=>absurd rfl hne
 ·rename_i a i
  split at hc
  ·rename_i e sz r' hb
   cases hc
   obtain⟨t1,t2,t3⟩:=tr hb (Zzo hz)
   cases hr with
   |row _ _ ad n c hn hl=>
    obtain⟨had,rfl,rfl⟩:=hl.2 _ t2
    exact fun a' n c e hne=>by
     have:=List.length_pos_iff.2 hne
     have hz:L.size a i≠0:=by omega
     cases e
     have e:=had hz
     simp only[zS]at e
     rw[e];exact t1 hz
  ·cases hc
 ·rename_i a i k n cap
  split at hc
  ·rename_i e sz r' hb
   simp only[zS,zP]at hc
   obtain⟨hkn,rfl⟩:=hc
   have hkn:k+n≤r'.elems.length:=by rw[Row.len_std]at hkn;simpa[std]using hkn
   obtain⟨t1,t2,t3⟩:=tr hb (Zzo hz)
   have hlen:(r'.sub std k n).elems.length=n:=by rw[Row.sub_std];simp[sub3];omega
   cases hr with
   |slc _ _ _ _ _ ad c hn hl=>
    rcases hl.2 _ t2 with⟨_,rfl,_⟩ |⟨_,rfl⟩ |⟨h9,h10,_⟩
    ·exact fun a' n c _ hne=>absurd (List.eq_nil_of_length_eq_zero hlen) hne
    ·exact fun a' n c _ hne=>absurd (List.eq_nil_of_length_eq_zero (by omega)) hne
    ·exact fun a' n c e hne=>by
      have:=List.length_pos_iff.2 hne
      have hz:L.size a i≠0:=by omega
      cases e
      simp only[zS]at h9
      rw[h9];exact t1 hz
  ·cases hc
 ·rename_i a i k off n
  split at hc
  ·rename_i e sz r' hb
   split at hc
   ·rename_i x hx
    simp only[zS,zP,std_and]at hc
    obtain⟨⟨hk,hon,hsg⟩,hrr⟩:=hc
    have hon:off+n≤x.elems.length:=by rw[Row.len_std]at hon;simpa[std]using hon
    have hre:r.elems=sub3 x.elems off n:=by rw[←Row.part_std hon,←hrr,ZfP]
    obtain⟨t1,t2,t3⟩:=tr hb (Zzo hz)
    have hlen:r.elems.length=n:=by rw[hre];simp[sub3];omega
    cases hr with
    |aslc _ _ _ _ _ g o c hn hl=>
     rcases hl.2 _ t2 with rfl |⟨rfl,rfl⟩
     ·exact fun a' n c _ hne=>absurd (List.eq_nil_of_length_eq_zero hlen) hne
     ·exact fun a' n c e _=>by
       have hk:k<r'.elems.length:=by rw[Row.len_std]at hk;simpa[std]using hk
       cases e;exact t1 (by omega)
   ·cases hc
  ·cases hc
 ·split at hc
  ·cases hc
   exact fun a' n c _ hne=>absurd rfl hne
  ·cases hc
 ·cases hc
end
end Go.Proofs.YtkeoeooghhjibaaGreatDoor
