/- Linear equations over the field of 16 elements: elimination. No condition. -/
import Derived.Test.YtjhldefnjghcdaaGreatPg
namespace Go.Proofs.YtjhldefnjghcdaaGreat
theorem ZdB{a:Nat}(ha:a<16):Zav 0 a=0:=by rw[Zbc (by decide) ha,Zb1 ha]
theorem ZoQ{a:Nat}(ha:a<16):Zav 1 a=a:=by rw[Zbc (by decide) ha,ZiH ha]
theorem ZEf{a b c:Nat}(ha:a<16)(hb:b<16)(hc:c<16):Zav c (a ^^^ b)=Zav c a ^^^ Zav c b:=by
 rw[Zbc hc (Zb4 ha hb),ZcB ha hb hc,Zbc ha hc,Zbc hb hc]
theorem ZoF(a b c d:Nat):(a ^^^ b) ^^^ (c ^^^ d)=(a ^^^ c) ^^^ (b ^^^ d):=by
 rw[Nat.xor_assoc,Nat.xor_assoc,←Nat.xor_assoc b c d,Nat.xor_comm b c,Nat.xor_assoc c b d]
abbrev Mat:=Nat→Nat→Nat
def El(r:Nat→Nat):Prop:=∀j,r j<16
def ElM(A:Mat):Prop:=∀i,El (A i)
def dt(r y:Nat→Nat):Nat→Nat
 |0=>0
 |n+1=>dt r y n ^^^ Zav (r n) (y n)
theorem Zn8{r y:Nat→Nat}(hr:El r)(hy:El y):∀n,dt r y n<16
 |0=>by simp[dt]
 |n+1=>Zb4 (Zn8 hr hy n) (Zbx (hr n) (hy n))
theorem Zft{r y:Nat→Nat}(hr:El r)(hy:El y){c:Nat}(hc:c<16):∀n,dt (fun j=>Zav (r j) c) y n=Zav (dt r y n) c
 |0=>by rw[dt,dt,ZdB hc]
 |n+1=>by
  rw[dt,dt,Zft hr hy hc n,ZcB (Zn8 hr hy n) (Zbx (hr n) (hy n)) hc,ZaH (hr n) hc (hy n),ZaH (hr n) (hy n) hc,Zbc hc (hy n)]
theorem ZAg{r p y:Nat→Nat}(hr:El r)(hp:El p)(hy:El y){c:Nat}(hc:c<16):∀n,dt (fun j=>r j ^^^ Zav (p j) c) y n=dt r y n ^^^ Zav (dt p y n) c
 |0=>by rw[dt,dt,dt,ZdB hc,Nat.xor_zero]
 |n+1=>by
  rw[dt,dt,dt,ZAg hr hp hy hc n,ZcB (hr n) (Zbx (hp n) hc) (hy n),ZcB (Zn8 hp hy n) (Zbx (hp n) (hy n)) hc,ZaH (hp n) hc (hy n),ZaH (hp n) (hy n) hc,Zbc hc (hy n),ZoF]
theorem ZaL{r s y z:Nat→Nat} :∀n,(∀j,j<n→r j=s j)→(∀j,j<n→y j=z j)→dt r y n=dt s z n
 |0,_,_=>rfl
 |n+1,h1,h2=>by rw[dt,dt,ZaL n (fun j hj=>h1 j (by omega)) (fun j hj=>h2 j (by omega)),h1 n (by omega),h2 n (by omega)]
theorem ZoB{r y:Nat→Nat}(hy:El y):∀n,(∀j,j<n→r j=0)→dt r y n=0
 |0,_=>rfl
 |n+1,h=>by rw[dt,ZoB hy n (fun j hj=>h j (by omega)),h n (by omega),ZdB (hy n)];rfl
theorem ZpR{r y:Nat→Nat}(hr:El r):∀n,(∀j,j<n→y j=0)→dt r y n=0
 |0,_=>rfl
 |n+1,h=>by rw[dt,ZpR hr n (fun j hj=>h j (by omega)),h n (by omega),Zb1 (hr n)];rfl
theorem Zrc{r y:Nat→Nat}(hy:El y){i:Nat} :∀n,(∀j,j<n→r j=if i=j then 1 else 0)→dt r y n=if i<n then y i else 0
 |0,_=>rfl
 |n+1,h=>by
  rw[dt,Zrc hy n (fun j hj=>h j (by omega)),h n (by omega)]
  by_cases h1:i=n
  ·subst h1;rw[if_neg (Nat.lt_irrefl _),if_pos rfl,if_pos (by omega),ZoQ (hy i),Nat.zero_xor]
  ·rw[if_neg h1,ZdB (hy n),Nat.xor_zero]
   by_cases h2:i<n
   ·rw[if_pos h2,if_pos (by omega)]
   ·rw[if_neg h2,if_neg (by omega)]
def ZA(A:Mat)(R u:Nat)(y:Nat→Nat):Prop:=∀i,i<R→dt (A i) y (u+1)=0
def ZaX(A:Mat)(k p:Nat):Mat:=fun i=>if i=k then A p else if i=p then A k else A i
def ZbF(A:Mat)(k c:Nat):Mat:=fun i j=>if i=k then Zav (A k j) c else A i j
def ZiY(A:Mat)(k:Nat):Mat:=fun i j=>if i=k then A k j else A i j ^^^ Zav (A k j) (A i k)
theorem ZdH{A:Mat}(h:ElM A)(k p:Nat):ElM (ZaX A k p):=fun i=>by
 unfold ZaX;split
 ·exact h p
 ·split
  ·exact h k
  ·exact h i
theorem Zfw{A:Mat}(h:ElM A)(k:Nat){c:Nat}(hc:c<16):ElM (ZbF A k c):=fun i j=>by
 unfold ZbF;split
 ·exact Zbx (h k j) hc
 ·exact h i j
theorem ZwQ{A:Mat}(h:ElM A)(k:Nat):ElM (ZiY A k):=fun i j=>by
 unfold ZiY;split
 ·exact h k j
 ·exact Zb4 (h i j) (Zbx (h k j) (h i k))
theorem ZIb{A:Mat}{R u k p:Nat}{y:Nat→Nat}(hk:k<R)(hp:p<R):ZA (ZaX A k p) R u y↔ZA A R u y:=by
 constructor
 ·intro h i hi
  by_cases h1:i=k
  ·subst h1
   have:=h p hp
   unfold ZaX at this
   by_cases h2:p=i
   ·subst h2;simpa using this
   ·simpa[h2]using this
  ·by_cases h2:i=p
   ·subst h2
    have:=h k hk
    unfold ZaX at this
    simpa using this
   ·have:=h i hi
    unfold ZaX at this
    simpa[h1,h2]using this
 ·intro h i hi
  unfold ZaX
  split
  ·exact h p hp
  ·split
   ·exact h k hk
   ·exact h i hi
theorem ZBa{A:Mat}(hA:ElM A){R u k c:Nat}(hc:c<16)(h0:c≠0){y:Nat→Nat}(hy:El y)(hk:k<R):ZA (ZbF A k c) R u y↔ZA A R u y:=by
 have e:dt (ZbF A k c k) y (u+1)=Zav (dt (A k) y (u+1)) c:=by
  rw[←Zft (hA k) hy hc]
  exact ZaL _ (fun j _=>by simp[ZbF]) (fun _ _=>rfl)
 have e2:∀i,i≠k→dt (ZbF A k c i) y (u+1)=dt (A i) y (u+1):=fun i hi=>ZaL _ (fun j _=>by simp[ZbF,hi]) (fun _ _=>rfl)
 constructor
 ·intro h i hi
  by_cases h1:i=k
  ·subst h1
   have:=h i hi
   rw[e]at this
   exact(ZbN (Zn8 (hA i) hy _) hc this).resolve_right h0
  ·rw[←e2 i h1];exact h i hi
 ·intro h i hi
  by_cases h1:i=k
  ·subst h1;rw[e,h i hi,ZdB hc]
  ·rw[e2 i h1];exact h i hi
theorem ZNy{A:Mat}(hA:ElM A){R u k:Nat}{y:Nat→Nat}(hy:El y)(hk:k<R):ZA (ZiY A k) R u y↔ZA A R u y:=by
 have e:dt (ZiY A k k) y (u+1)=dt (A k) y (u+1):=ZaL _ (fun j _=>by simp[ZiY]) (fun _ _=>rfl)
 have e2:∀i,i≠k→dt (ZiY A k i) y (u+1)=dt (A i) y (u+1) ^^^ Zav (dt (A k) y (u+1)) (A i k):=fun i hi=>by
  rw[←ZAg (hA i) (hA k) hy (hA i k)]
  exact ZaL _ (fun j _=>by simp[ZiY,hi]) (fun _ _=>rfl)
 constructor
 ·intro h
  have hk0:=h k hk
  rw[e]at hk0
  intro i hi
  by_cases h1:i=k
  ·subst h1;exact hk0
  ·have:=h i hi
   rw[e2 i h1,hk0,ZdB (hA i k),Nat.xor_zero]at this
   exact this
 ·intro h i hi
  by_cases h1:i=k
  ·subst h1;rw[e];exact h i hi
  ·rw[e2 i h1,h i hi,h k hk,ZdB (hA i k)];rfl
def piv(A:Mat)(k:Nat):Nat→Nat→Option Nat
 |0,_=>none
 |c+1,i=>if A i k=0 then piv A k c (i+1)else some i
theorem ZsP{A:Mat}{k:Nat} :∀ {c i p:Nat},piv A k c i=some p→i≤p∧p<i+c∧A p k≠0
 |0,_,_,h=>by cases h
 |c+1,i,p,h=>by
  rw[piv]at h
  split at h
  ·have:=ZsP h;omega
  ·rename_i h0
   cases h;exact⟨Nat.le_refl _,by omega,h0⟩
theorem Zsu{A:Mat}{k:Nat} :∀ {c i:Nat},piv A k c i=none→∀j,i≤j→j<i+c→A j k=0
 |0,i,_,j,h1,h2=>by omega
 |c+1,i,h,j,h1,h2=>by
  rw[piv]at h
  split at h
  ·rename_i h0
   by_cases hj:j=i
   ·subst hj;exact h0
   ·exact Zsu h j (by omega) (by omega)
  ·cases h
def Zk5(A:Mat)(k p:Nat):Mat:=ZiY (ZbF (ZaX A k p) k (ZiJ (ZaX A k p k k))) k
def elA(R:Nat):Nat→Nat→Mat→Option Mat
 |0,_,A=>some A
 |c+1,k,A=>match piv A k (R-k) k with
  |none=>none
  |some p=>elA R c (k+1) (Zk5 A k p)
def Red(A:Mat)(R k:Nat):Prop:=∀i j,i<R→j<k→A i j=if i=j then 1 else 0
theorem Zdl{A:Mat}(hA:ElM A){R k p:Nat}(hp:piv A k (R-k) k=some p):ElM (Zk5 A k p)∧k<R∧p<R∧k≤p∧ZiJ (ZaX A k p k k)<16∧ZiJ (ZaX A k p k k)≠0∧Zav (ZaX A k p k k) (ZiJ (ZaX A k p k k))=1:=by
 obtain⟨h1,h2,h3⟩:=ZsP hp
 have e:ZaX A k p k k=A p k:=by simp[ZaX]
 obtain⟨g1,g2⟩:=ZyN (hA p k) h3
 rw[e]
 have g3:ZiJ (A p k)≠0:=fun h0=>by rw[h0,Zb1 (hA p k)]at g2;cases g2
 refine⟨?_,by omega,by omega,h1,g1,g3,g2⟩
 unfold Zk5
 rw[e]
 exact ZwQ (Zfw (ZdH hA k p) k g1) k
theorem Zz9{A:Mat}(hA:ElM A){R u k p:Nat}(hp:piv A k (R-k) k=some p){y:Nat→Nat}(hy:El y):ZA (Zk5 A k p) R u y↔ZA A R u y:=by
 obtain⟨_,h1,h2,_,h3,h4,_⟩:=Zdl hA hp
 unfold Zk5
 rw[ZNy (Zfw (ZdH hA k p) k h3) hy h1,ZBa (ZdH hA k p) h3 h4 hy h1,ZIb h1 h2]
theorem ZsL{A:Mat}(hA:ElM A){R k p:Nat}(hp:piv A k (R-k) k=some p)(hr:Red A R k):Red (Zk5 A k p) R (k+1):=by
 obtain⟨_,h1,h2,h3,h4,h5,h6⟩:=Zdl hA hp
 have hs:∀i j,i<R→j<k→ZaX A k p i j=if i=j then 1 else 0:=fun i j hi hj=>by
  unfold ZaX
  split
  ·rename_i h;subst h;rw[hr p j h2 hj,if_neg (by omega),if_neg (by omega)]
  ·split
   ·rename_i h;subst h;rw[hr k j h1 hj,if_neg (by omega),if_neg (by omega)]
   ·exact hr i j hi hj
 have hB:∀i j,i<R→j<k→ZbF (ZaX A k p) k (ZiJ (ZaX A k p k k)) i j=if i=j then 1 else 0:=fun i j hi hj=>by
  unfold ZbF
  split
  ·rename_i h;subst h;rw[hs i j hi hj,if_neg (by omega),ZdB h4]
  ·exact hs i j hi hj
 have hk:ZbF (ZaX A k p) k (ZiJ (ZaX A k p k k)) k k=1:=by unfold ZbF;rw[if_pos rfl,h6]
 have hel:=Zfw (ZdH hA k p) k h4
 intro i j hi hj
 show ZiY (ZbF (ZaX A k p) k (ZiJ (ZaX A k p k k))) k i j=_
 generalize ZbF (ZaX A k p) k (ZiJ (ZaX A k p k k))=B at*
 unfold ZiY
 by_cases hjk:j=k
 ·subst hjk
  by_cases hik:i=j
  ·subst hik;rw[if_pos rfl,if_pos rfl,hk]
  ·rw[if_neg hik,if_neg hik,hk,ZoQ (hel i j),Nat.xor_self]
 ·have hj':j<k:=by omega
  by_cases hik:i=k
  ·subst hik;rw[if_pos rfl];exact hB i j hi hj'
  ·rw[if_neg hik,hB k j h1 hj',if_neg (by omega),ZdB (hel i k),Nat.xor_zero];exact hB i j hi hj'
theorem Zfn{R u:Nat} :∀(c k:Nat) (A B:Mat),ElM A→Red A R k→k+c=u→(c=0→k≤R)→elA R c k A=some B→ElM B∧Red B R u∧u≤R∧∀y,El y→(ZA B R u y↔ZA A R u y)
 |0,k,A,B,hA,hr,hc,hk,h=>by
  cases h
  have:k=u:=by omega
  subst this
  exact⟨hA,hr,hk rfl,fun _ _=>Iff.rfl⟩
 |c+1,k,A,B,hA,hr,hc,_,h=>by
  rw[elA]at h
  split at h
  ·cases h
  ·rename_i p hp
   have h1:=(Zdl hA hp).1
   have h2:=(Zdl hA hp).2.1
   obtain⟨a,b,c',d⟩:=Zfn (u:=u) c (k+1) (Zk5 A k p) B h1 (ZsL hA hp hr) (by omega) (fun _=>by omega) h
   exact⟨a,b,c',fun y hy=>(d y hy).trans (Zz9 hA hp hy)⟩
theorem ZrL{R u:Nat} :∀(c k:Nat) (A:Mat),ElM A→Red A R k→k+c=u→elA R c k A=none→∃y,El y∧ZA A R u y∧y u=0∧∃j,j<u∧y j≠0
 |0,k,A,_,_,_,h=>by cases h
 |c+1,k,A,hA,hr,hc,h=>by
  rw[elA]at h
  split at h
  ·rename_i hp
   have h0:=Zsu hp
   refine⟨fun j=>if j<k then A j k else if j=k then 1 else 0,fun j=>?_,fun i hi=>?_,?_,k,by omega,by simp⟩
   ·show(if j<k then A j k else if j=k then 1 else 0)<16
    split
    ·exact hA j k
    ·split<;>decide
   ·have hy:El (fun j=>if j<k then A j k else if j=k then 1 else 0):=fun j=>by
     show(if j<k then A j k else if j=k then 1 else 0)<16
     split
     ·exact hA j k
     ·split<;>decide
    have key:∀n,dt (A i) (fun j=>if j<k then A j k else if j=k then 1 else 0) (k+1+n)=0:=by
     intro n
     induction n with
     |zero=>
      rw[Nat.add_zero,dt,Zrc hy k (fun j hj=>hr i j hi hj)]
      have e:(if k<k then A k k else if k=k then 1 else 0)=1:=by simp
      rw[e,ZiH (hA i k)]
      by_cases hik:i<k
      ·rw[if_pos hik]
       show(if i<k then A i k else if i=k then 1 else 0) ^^^ A i k=0
       rw[if_pos hik,Nat.xor_self]
      ·rw[if_neg hik,Nat.zero_xor]
       exact h0 i (by omega) (by omega)
     |succ n ih=>
      rw[show k+1+(n+1)=(k+1+n)+1 by omega,dt,ih]
      show 0 ^^^ Zav (A i (k+1+n)) (if k+1+n<k then A (k+1+n) k else if k+1+n=k then 1 else 0)=0
      rw[if_neg (by omega),if_neg (by omega),Zb1 (hA i _)];rfl
    have:=key (u-k)
    rwa[show k+1+(u-k)=u+1 by omega]at this
   ·show(if u<k then A u k else if u=k then 1 else 0)=0
    rw[if_neg (by omega),if_neg (by omega)]
  ·rename_i p hp
   obtain⟨y,h1,h2,h3,h4⟩:=ZrL (u:=u) c (k+1) (Zk5 A k p) (Zdl hA hp).1 (ZsL hA hp hr) (by omega) h
   exact⟨y,h1,(Zz9 hA hp h1).1 h2,h3,h4⟩
theorem Zor{B:Mat}(hB:ElM B){R u:Nat}(hr:Red B R u)(hu:u≤R){y:Nat→Nat}(hy:El y)(h1:y u=1):ZA B R u y↔(∀j,j<u→y j=B j u)∧∀i,u≤i→i<R→B i u=0:=by
 have e:∀i,i<R→dt (B i) y (u+1)=(if i<u then y i else 0) ^^^ B i u:=fun i hi=>by
  rw[dt,Zrc hy u (fun j hj=>hr i j hi hj),h1,ZiH (hB i u)]
 have hx:∀a b:Nat,a ^^^ b=0→a=b:=fun a b h=>by
  have:a ^^^ b ^^^ b=0 ^^^ b:=by rw[h]
  rwa[Nat.xor_assoc,Nat.xor_self,Nat.xor_zero,Nat.zero_xor]at this
 constructor
 ·intro h
  refine⟨fun j hj=>?_,fun i h2 hi=>?_⟩
  ·have:=h j (by omega)
   rw[e j (by omega),if_pos hj]at this
   exact hx _ _ this
  ·have:=h i hi
   rw[e i hi,if_neg (by omega),Nat.zero_xor]at this
   exact this
 ·rintro⟨h2,h3⟩ i hi
  rw[e i hi]
  by_cases hiu:i<u
  ·rw[if_pos hiu,h2 i hiu,Nat.xor_self]
  ·rw[if_neg hiu,Nat.zero_xor];exact h3 i (by omega) hi
theorem Zcv(A:Mat)(R:Nat):Red A R 0:=fun i j _ hj=>by omega
end Go.Proofs.YtjhldefnjghcdaaGreat
namespace Go.Proofs.YtjhldefnjghcdaaGreat
def Zcp(u:Nat)(r:Nat→Nat):zI:=(List.range (u+1)).map fun j=>((r j:Nat):Int)
theorem Za6(u:Nat)(r:Nat→Nat):(Zcp u r).length=u+1:=by simp[Zcp]
theorem Za4{u j:Nat}(r:Nat→Nat)(h:j<u+1):(Zcp u r).getD j 0=((r j:Nat):Int):=by
 unfold Zcp
 rw[List.getD_eq_getElem?_getD,List.getElem?_map,List.getElem?_range h];rfl
theorem Za2{u:Nat}{r s:Nat→Nat}(h:∀j,j<u+1→r j=s j):Zcp u r=Zcp u s:=by
 unfold Zcp
 refine List.map_congr_left fun j hj=>?_
 rw[h j (List.mem_range.1 hj)]
theorem Zx4{u j:Nat}(r:Nat→Nat)(x:Nat):(Zcp u r).set j ((x:Nat):Int)=Zcp u (fun i=>if i=j then x else r i):=by
 apply List.ext_getElem?
 intro i
 unfold Zcp
 rw[List.getElem?_set,List.getElem?_map,List.getElem?_map,List.length_map,List.length_range]
 by_cases hi:i<u+1
 ·rw[List.getElem?_range hi]
  by_cases hj:j=i
  ·subst hj;simp[hi]
  ·simp[hj,show ¬i=j from fun e=>hj e.symm]
 ·rw[List.getElem?_eq_none (by simp;omega)]
  simp;omega
structure St (R u:Nat) (refs:List Nat) (rows:List zI) (A:Mat):Prop where
 n:refs.length=R
 d:∀i j,i<R→j<R→refs.getD i 0=refs.getD j 0→i=j
 l:∀i,i<R→refs.getD i 0<rows.length
 v:∀i,i<R→rows.getD (refs.getD i 0) []=Zcp u (A i)
theorem Zbz{α:Type}(l:List α)(i j:Nat)(x d:α):(l.set i x).getD j d=if i=j∧j<l.length then x else l.getD j d:=by
 rw[List.getD_eq_getElem?_getD,List.getElem?_set,List.getD_eq_getElem?_getD]
 by_cases h:i=j
 ·subst h
  by_cases h2:i<l.length
  ·simp[h2]
  ·simp[h2]
 ·simp[h]
theorem St.congr{R u:Nat}{refs:List Nat}{rows:List zI}{A B:Mat}(h:St R u refs rows A)(he:∀i j,i<R→j<u+1→A i j=B i j):St R u refs rows B:=
 ⟨h.n,h.d,h.l,fun i hi=>by rw[h.v i hi];exact Za2 fun j hj=>he i j hi hj⟩
theorem St.setrow{R u:Nat}{refs:List Nat}{rows:List zI}{A:Mat}(h:St R u refs rows A){i:Nat}(hi:i<R)(r:Nat→Nat):St R u refs (rows.set (refs.getD i 0) (Zcp u r)) (fun i'=>if i'=i then r else A i'):=by
 refine⟨h.n,h.d,fun j hj=>by rw[List.length_set];exact h.l j hj,fun j hj=>?_⟩
 rw[Zbz]
 by_cases hij:j=i
 ·subst hij;rw[if_pos ⟨rfl,h.l j hj⟩,if_pos rfl]
 ·rw[if_neg (fun e=>hij (h.d i j hi hj e.1).symm),if_neg hij];exact h.v j hj
theorem St.setcell{R u:Nat}{refs:List Nat}{rows:List zI}{A:Mat}(h:St R u refs rows A){i:Nat}(hi:i<R)(n x:Nat):St R u refs (rows.set (refs.getD i 0) ((Zcp u (A i)).set n ((x:Nat):Int))) (fun i' j=>if i'=i∧j=n then x else A i' j):=by
 rw[Zx4]
 refine(h.setrow hi _).congr fun a b _ _=>?_
 by_cases ha:a=i
 ·subst ha;by_cases hb:b=n<;>simp[hb]
 ·simp[ha]
theorem St.swap{R u:Nat}{refs:List Nat}{rows:List zI}{A:Mat}(h:St R u refs rows A){k p:Nat}(hk:k<R)(hp:p<R):St R u ((refs.set k (refs.getD p 0)).set p (refs.getD k 0)) rows (ZaX A k p):=by
 have g:∀i,i<R→((refs.set k (refs.getD p 0)).set p (refs.getD k 0)).getD i 0=refs.getD (if i=p then k else if i=k then p else i) 0:=fun i hi=>by
  have hn:=h.n
  rw[Zbz,Zbz,List.length_set]
  by_cases h1:p=i
  ·subst h1;simp[hn,hp]
  ·have h1':¬i=p:=fun e=>h1 e.symm
   by_cases h2:k=i
   ·subst h2;simp[h1,h1',hn,hk]
   ·have h2':¬i=k:=fun e=>h2 e.symm
    simp[h1,h1',h2,h2']
 have gl:∀i,i<R→(if i=p then k else if i=k then p else i)<R:=fun i hi=>by split;exact hk;split;exact hp;exact hi
 refine⟨by simp[h.n],fun i j hi hj e=>?_,fun i hi=>?_,fun i hi=>?_⟩
 ·rw[g i hi,g j hj]at e
  have:=h.d _ _ (gl i hi) (gl j hj) e
  split at this<;>split at this<;>(try split at this)<;>(try split at this)<;>omega
 ·rw[g i hi];exact h.l _ (gl i hi)
 ·rw[g i hi,h.v _ (gl i hi)]
  apply Za2
  intro j _
  unfold ZaX
  by_cases h1:i=p
  ·subst h1
   by_cases h2:i=k
   ·subst h2;simp
   ·simp[h2]
  ·by_cases h2:i=k
   ·subst h2;simp[h1]
   ·simp[h1,h2]
end Go.Proofs.YtjhldefnjghcdaaGreat
namespace Go.Proofs.YtjhldefnjghcdaaGreat
@[simp] theorem ZrV (l:List Nat) (k n:Nat):std.subF l k n=(l.drop k).take n:=rfl
def ZcD(B:Mat)(u n:Nat):zI:=(List.range n).map fun j=>((B j u:Nat):Int)
theorem Zds(B:Mat)(u n:Nat):(ZcD B u n).length=n:=by simp[ZcD]
theorem Zph(B:Mat)(u n:Nat):ZcD B u (n+1)=ZcD B u n++[((B n u:Nat):Int)]:=by unfold ZcD;rw[List.range_succ,List.map_append];rfl
section
variable {C:Ctx}(hC:C.P=Tryz.prog)(w e l2:zI)(n3:Int)(l4:zI)(n5:Int)(b14:Bool)(n15:Int)(R u:Nat)(hR:R≤100)(hu:u≤100)(r:AV)(fr:Option Fresh)
include hC hR hu
theorem ZMt{k i:Nat}(hk:k<R)(hi:i<R)(hik:i≠k){refs:List Nat}{A:Mat}(hA:ElM A)(m:Int)
 (hn:∀rows,St R u refs rows (fun i' j=>if i'=i then A i j ^^^ Zav (A k j) (A i k)else A i' j)→Ev C (ZdQ w e std l2 n3 l4 n5 (u:Int) (u:Int) b14 n15 k refs m ((i+1:Nat):Int) rows) (ZcT w e std l2 n3 l4 n5 (u:Int) (u:Int) b14 n15 k refs m ((i+1:Nat):Int) rows) (ZaD 59 r fr)):
 ∀(c n:Nat) (rows:List zI),n+c=u+1→St R u refs rows (fun i' j=>if i'=i∧j<n then A i j ^^^ Zav (A k j) (A i k)else A i' j)→Ev C (Zj7 w e std l2 n3 l4 n5 (u:Int) (u:Int) b14 n15 k refs m i (refs.getD i 0) ((A i k:Nat):Int) ((u+1:Nat):Int) n rows) (Zhz w e std l2 n3 l4 n5 (u:Int) (u:Int) b14 n15 k refs m i (refs.getD i 0) ((A i k:Nat):Int) ((u+1:Nat):Int) n rows) (ZaD 59 r fr):=by
 intro c
 induction c with
 |zero=>
  intro n rows hc hs
  have i0:=hn rows (hs.congr fun a b _ hb=>by by_cases h:a=i<;>simp[h,show b<n by omega])
  refine tgo hC ZaN ZmE ?_
  simp[-List.getD_eq_getElem?_getD,Zia,show ¬(n:Int)<(u:Int)+1 by omega]at i0⊢
  exact⟨by omega,i0⟩
 |succ c ih=>
  intro n rows hc hs
  have hnu:n<u+1:=by omega
  have e1:rows.getD (refs.getD i 0) []=Zcp u (fun j=>if j<n then A i j ^^^ Zav (A k j) (A i k)else A i j):=by rw[hs.v i hi];exact Za2 fun j _=>by simp
  have e2:rows.getD (refs.getD k 0) []=Zcp u (A k):=by rw[hs.v k hk];exact Za2 fun j _=>by rw[if_neg (fun e=>hik e.1.symm)]
  have q1:=hs.l i hi
  have q2:=hs.l k hk
  have q3:=hs.n
  have x1:=Zbx (hA k n) (hA i k)
  have s1:=hs.setcell hi n (A i n ^^^ Zav (A k n) (A i k))
  have i0:=ih (n+1) _ (by omega) (s1.congr fun a b _ hb=>by
   by_cases ha:a=i
   ·by_cases hb2:b=n
    ·simp[ha,hb2]
    ·have:b<n+1↔b<n:=by omega
     simp[-List.getD_eq_getElem?_getD,ha,hb2,this]
   ·simp[ha])
  have g1:(Zcp u (fun j=>if j<n then A i j ^^^ Zav (A k j) (A i k)else A i j)).getD n 0=((A i n:Nat):Int):=by rw[Za4 _ hnu];simp
  have g2:(Zcp u (A k)).getD n 0=((A k n:Nat):Int):=Za4 _ hnu
  have x2:=ZeA (r:=A i n) (k:=Zav (A k n) (A i k)) (by have:=hA i n;omega) (by omega)
  have x3:gM ((A k n:Nat):Int) ((A i k:Nat):Int)=((Zav (A k n) (A i k):Nat):Int):=rfl
  have b1:=Zbm (hA k n)
  have b2:=Zbm (hA i k)
  have r1:=Za6 u (fun j=>if j<n then A i j ^^^ Zav (A k j) (A i k)else A i j)
  have r2:=Za6 u (A k)
  refine tgo hC ZaN ZmE ?_
  simp only[Zia,Zbq,Za7,ZaT,Int.toNat_natCast,e1,e2,Zba,g1,g2,x3,x2,ZuB,Nat.sub_zero]
  simp only[Zbw,r1,r2,q3]
  simp[-List.getD_eq_getElem?_getD,q1,q2,hk,hnu,b1,b2,show(n:Int)<(u:Int)+1 by omega]at i0⊢
  exact⟨by omega,i0⟩
theorem ZMa{k:Nat}(hk:k<R){refs:List Nat}{A:Mat}(hA:ElM A)
 (hn:∀rows,St R u refs rows (ZiY A k)→Ev C (Zc2 w e std l2 n3 l4 n5 (u:Int) (u:Int) b14 n15 ((k+1:Nat):Int) refs rows) (Zca w e std l2 n3 l4 n5 (u:Int) (u:Int) b14 n15 ((k+1:Nat):Int) refs rows) (ZaD 59 r fr)) (hku:k<u):
 ∀(c i:Nat) (rows:List zI),i+c=R→St R u refs rows (fun i' j=>if i'<i then ZiY A k i' j else A i' j)→Ev C (ZdQ w e std l2 n3 l4 n5 (u:Int) (u:Int) b14 n15 k refs R i rows) (ZcT w e std l2 n3 l4 n5 (u:Int) (u:Int) b14 n15 k refs R i rows) (ZaD 59 r fr):=by
 intro c
 induction c with
 |zero=>
  intro i rows hc hs
  have i0:=hn rows (hs.congr fun a b ha _=>by rw[if_pos (by omega)])
  refine tgo hC ZaN Znf ?_
  simp[-List.getD_eq_getElem?_getD,ZcS,show ¬(i:Int)<R by omega]at i0⊢
  exact⟨by omega,i0⟩
 |succ c ih=>
  intro i rows hc hs
  have hi:i<R:=by omega
  have e1:rows.getD (refs.getD i 0) []=Zcp u (A i):=by rw[hs.v i hi];exact Za2 fun j _=>by rw[if_neg (Nat.lt_irrefl i)]
  have q1:=hs.l i hi
  have q3:=hs.n
  have g1:(Zcp u (A i)).getD k 0=((A i k:Nat):Int):=Za4 _ (by omega)
  have r1:=Za6 u (A i)
  refine tgo hC ZaN Znf ?_
  by_cases hik:i=k
  ·have i0:=ih (i+1) rows (by omega) (hs.congr fun a b _ _=>by
    by_cases ha:a<i
    ·rw[if_pos ha,if_pos (by omega)]
    ·rw[if_neg ha]
     by_cases ha2:a<i+1
     ·have:a=k:=by omega
      rw[if_pos ha2,this,ZiY,if_pos rfl]
     ·rw[if_neg ha2])
   simp only[ZcS,Zbq,Za7,ZaT,Int.toNat_natCast,e1,Zba,g1]
   simp only[Zbw,r1,q3]
   subst hik
   simp[-List.getD_eq_getElem?_getD,q1,hk,show i<u+1 by omega]at i0⊢
   exact⟨by omega,i0⟩
  ·by_cases h0:A i k=0
   ·have i0:=ih (i+1) rows (by omega) (hs.congr fun a b _ _=>by
     by_cases ha:a<i
     ·rw[if_pos ha,if_pos (by omega)]
     ·rw[if_neg ha]
      by_cases ha2:a<i+1
      ·have:a=i:=by omega
       rw[if_pos ha2,this,ZiY,if_neg hik,h0,Zb1 (hA k b),Nat.xor_zero]
      ·rw[if_neg ha2])
    simp only[ZcS,Zbq,Za7,ZaT,Int.toNat_natCast,e1,Zba,g1,h0]
    simp only[Zbw,r1,q3]
    have hik':¬(i:Int)=k:=by omega
    simp[-List.getD_eq_getElem?_getD,q1,hk,hi,show k<u+1 by omega,show(i:Int)<R by omega,hik',hik]at i0⊢
    exact⟨by omega,i0⟩
   ·have i0:=ZMt hC w e l2 n3 l4 n5 b14 n15 R u hR hu r fr (k:=k) (i:=i) hk hi hik (refs:=refs) (A:=fun i' j=>if i'<i then ZiY A k i' j else A i' j) (fun a b=>by
     show(if a<i then ZiY A k a b else A a b)<16
     split
     ·exact ZwQ hA k a b
     ·exact hA a b) R (fun rows2 hs2=>ih (i+1) rows2 (by omega) (hs2.congr fun a b ha hb=>by
      by_cases hai:a=i
      ·subst hai
       simp only[if_true,Nat.lt_irrefl,if_false,Nat.lt_add_one,ZiY,hik]
       by_cases hka:k<a<;>simp[hka]
      ·rw[if_neg hai]
       by_cases ha2:a<i
       ·rw[if_pos ha2,if_pos (by omega)]
       ·rw[if_neg ha2,if_neg (by omega)])) (u+1) 0 rows (by omega) (hs.congr fun a b _ _=>by simp)
    rw[if_neg (Nat.lt_irrefl i)]at i0
    simp only[ZcS,Zbq,Za7,ZaT,Int.toNat_natCast,e1,Zba,g1]
    simp only[Zbw,r1,q3]
    have hik':¬(i:Int)=k:=by omega
    have h0':¬((A i k:Nat):Int)=0:=by omega
    simp[-List.getD_eq_getElem?_getD,q1,hk,hi,show k<u+1 by omega,show(i:Int)<R by omega,hik',hik,h0',h0]at i0⊢
    exact i0
end
section
variable {C:Ctx}(hC:C.P=Tryz.prog)(w e l2:zI)(n3:Int)(l4:zI)(n5:Int)(b14:Bool)(n15:Int)(R u:Nat)(hu:u≤100)(r:AV)(fr:Option Fresh)
include hC hu
theorem ZLK{k:Nat}(hk:k<R){refs:List Nat}{A:Mat}(hA:ElM A){c0:Nat}(hc0:c0<16)
 (hn:∀rows,St R u refs rows (ZbF A k c0)→Ev C (ZdQ w e std l2 n3 l4 n5 (u:Int) (u:Int) b14 n15 k refs R 0 rows) (ZcT w e std l2 n3 l4 n5 (u:Int) (u:Int) b14 n15 k refs R 0 rows) (ZaD 59 r fr)):
 ∀(c n:Nat) (rows:List zI),n+c=u+1→St R u refs rows (fun i' j=>if i'=k∧j<n then Zav (A k j) c0 else A i' j)→Ev C (Zfr w e std l2 n3 l4 n5 (u:Int) (u:Int) b14 n15 k ((c0:Nat):Int) ((u+1:Nat):Int) refs n rows) (Zeh w e std l2 n3 l4 n5 (u:Int) (u:Int) b14 n15 k ((c0:Nat):Int) ((u+1:Nat):Int) refs n rows) (ZaD 59 r fr):=by
 intro c
 induction c with
 |zero=>
  intro n rows hc hs
  have i0:=hn rows (hs.congr fun a b _ hb=>by
   unfold ZbF
   by_cases h:a=k
   ·simp[h,show b<n by omega]
   ·simp[h])
  have q3:=hs.n
  refine tgo hC ZaN Zly ?_
  simp[-List.getD_eq_getElem?_getD,ZhK,q3,show ¬(n:Int)<(u:Int)+1 by omega]at i0⊢
  exact i0
 |succ c ih=>
  intro n rows hc hs
  have hnu:n<u+1:=by omega
  have e2:rows.getD (refs.getD k 0) []=Zcp u (fun j=>if j<n then Zav (A k j) c0 else A k j):=by rw[hs.v k hk];exact Za2 fun j _=>by simp
  have q2:=hs.l k hk
  have q3:=hs.n
  have s1:=hs.setcell hk n (Zav (A k n) c0)
  have i0:=ih (n+1) _ (by omega) (s1.congr fun a b _ hb=>by
   by_cases ha:a=k
   ·by_cases hb2:b=n
    ·simp[ha,hb2]
    ·have:b<n+1↔b<n:=by omega
     simp[-List.getD_eq_getElem?_getD,ha,hb2,this]
   ·simp[ha])
  have g2:(Zcp u (fun j=>if j<n then Zav (A k j) c0 else A k j)).getD n 0=((A k n:Nat):Int):=by rw[Za4 _ hnu];simp
  have x3:gM ((A k n:Nat):Int) ((c0:Nat):Int)=((Zav (A k n) c0:Nat):Int):=rfl
  have b1:=Zbm (hA k n)
  have b2:=Zbm hc0
  have r2:=Za6 u (fun j=>if j<n then Zav (A k j) c0 else A k j)
  refine tgo hC ZaN Zly ?_
  simp only[ZhK,Zbq,Za7,ZaT,Int.toNat_natCast,e2,Zba,g2,x3,ZuB,Nat.sub_zero]
  simp only[Zbw,r2,q3]
  simp[-List.getD_eq_getElem?_getD,q2,hk,hnu,b1,b2,show(n:Int)<(u:Int)+1 by omega]at i0⊢
  exact⟨by omega,i0⟩
end
section
variable {C:Ctx}(hC:C.P=Tryz.prog)(w e l2:zI)(n3:Int)(l4:zI)(n5:Int)(b14:Bool)(n15:Int)(R u:Nat)(hR:R≤100)(hu:u≤100)(r:AV)(fr:Option Fresh)
include hC hR hu
theorem ZM1{k:Nat}(hku:k<u){refs:List Nat}{rows:List zI}{A:Mat}(hA:ElM A)(hs:St R u refs rows A)(b22:Bool)(n23 n24:Int)(j25 j26:Nat)(hk:k<R):
 ∀(c i:Nat),i+c=R-k→(∀p,piv A k c (k+i)=some p→Ev C (Zfr w e std l2 n3 l4 n5 (u:Int) (u:Int) b14 n15 k ((ZiJ (ZaX A k p k k):Nat):Int) ((u+1:Nat):Int) ((refs.set k (refs.getD p 0)).set p (refs.getD k 0)) 0 rows) (Zeh w e std l2 n3 l4 n5 (u:Int) (u:Int) b14 n15 k ((ZiJ (ZaX A k p k k):Nat):Int) ((u+1:Nat):Int) ((refs.set k (refs.getD p 0)).set p (refs.getD k 0)) 0 rows) (ZaD 59 r fr))→(piv A k c (k+i)=none→r=.tup [.agg (.ints .i64 (List.replicate 15 0)), .bool false]∧fr=none)→Ev C (Zi8 w e std l2 n3 l4 n5 (u:Int) (u:Int) b14 n15 k refs rows k (R-k) ((R-k:Nat):Int) b22 n23 n24 j25 j26 i) (Zh2 w e std l2 n3 l4 n5 (u:Int) (u:Int) b14 n15 k refs rows k (R-k) ((R-k:Nat):Int) b22 n23 n24 j25 j26 i) (ZaD 59 r fr):=by
 intro c
 induction c with
 |zero=>
  intro i hc h1 h2
  obtain⟨e1,e2⟩:=h2 rfl
  refine tgo hC ZaN Zge ?_
  simp[Zde,show ¬(i:Int)<((R-k:Nat):Int) by omega,e1,e2]
 |succ c ih=>
  intro i hc h1 h2
  have hi:k+i<R:=by omega
  have e1:=hs.v (k+i) hi
  have q1:=hs.l (k+i) hi
  have q3:=hs.n
  have g1:(Zcp u (A (k+i))).getD k 0=((A (k+i) k:Nat):Int):=Za4 _ (by omega)
  have r1:=Za6 u (A (k+i))
  have k1:((k:Int)+(i:Int)).toNat=k+i:=by omega
  have hlt:(i:Int)<((R-k:Nat):Int):=by omega
  have hlt2:i<R-k:=by omega
  refine tgo hC ZaN Zge ?_
  rw[piv]at h1 h2
  by_cases h0:A (k+i) k=0
  ·rw[if_pos h0]at h2
   have i0:=ih (i+1) (by omega) (fun p hp=>h1 p (by rw[if_pos h0];exact hp)) h2
   simp only[Zde,Zbq,Za7,ZaT,Int.toNat_natCast,e1,Zba,g1,h0]
   simp only[Zbw,r1,q3]
   simp[-List.getD_eq_getElem?_getD,q1,hi,hlt,hlt2,show k<u+1 by omega]at i0⊢
   exact⟨by omega,i0⟩
  ·have i0:=h1 (k+i) (by rw[if_neg h0])
   have hs':=hs.swap hk hi
   obtain⟨refs',hr'⟩:∃x,x=(refs.set k (refs.getD (k+i) 0)).set (k+i) (refs.getD k 0):=⟨_,rfl⟩
   rw[←hr']at hs' i0
   have e2:=hs'.v k hk
   have q4:=hs'.l k hk
   have q5:=hs'.n
   have sk:ZaX A k (k+i) k k=A (k+i) k:=by simp[ZaX]
   have g2:(Zcp u (ZaX A k (k+i) k)).getD k 0=((A (k+i) k:Nat):Int):=by rw[Za4 _ (by omega),sk]
   have r2:=Za6 u (ZaX A k (k+i) k)
   have b1:=Zbm (hA (k+i) k)
   have h0':¬((A (k+i) k:Nat):Int)=0:=by omega
   rw[sk]at i0
   have x1:gI ((A (k+i) k:Nat):Int)=((ZiJ (A (k+i) k):Nat):Int):=rfl
   simp only[Zde,Zbq,Za7,ZAx,ZaT,Zho,k1,Int.toNat_natCast,e1,Zba,g1,←hr',e2,g2,x1]
   simp only[Zbw,Ze0,r1,r2,q3,q5]
   simp[-List.getD_eq_getElem?_getD,q1,q4,hi,hk,hlt,hlt2,h0',h0,b1,List.length_set,q3,show k<u+1 by omega]at i0⊢
   exact⟨by omega,i0⟩
theorem ZOg:∀(c k:Nat) (A:Mat) (refs:List Nat) (rows:List zI),k+c=u→ElM A→St R u refs rows A→(∀B refs rows,elA R c k A=some B→St R u refs rows B→Ev C (ZfG w e std l2 n3 l4 n5 (u:Int) b14 n15 refs rows R 0 []) (Zev w e std l2 n3 l4 n5 (u:Int) b14 n15 refs rows R 0 []) (ZaD 59 r fr))→(elA R c k A=none→r=.tup [.agg (.ints .i64 (List.replicate 15 0)), .bool false]∧fr=none)→Ev C (Zc2 w e std l2 n3 l4 n5 (u:Int) (u:Int) b14 n15 k refs rows) (Zca w e std l2 n3 l4 n5 (u:Int) (u:Int) b14 n15 k refs rows) (ZaD 59 r fr):=by
 intro c
 induction c with
 |zero=>
  intro k A refs rows hc hA hs h1 h2
  have i0:=h1 A refs rows rfl hs
  have q3:=hs.n
  refine tgo hC ZaN Zma ?_
  simp[-List.getD_eq_getElem?_getD,Zd9,q3,show ¬(k:Int)<(u:Int) by omega]at i0⊢
  exact i0
 |succ c ih=>
  intro k A refs rows hc hA hs h1 h2
  have q3:=hs.n
  refine tgo hC ZaN Zma ?_
  rw[elA]at h1 h2
  by_cases hk:k<R
  ·have k1:(min (k:Int) (R:Int)).toNat=k:=by omega
   have k2:min (k:Int) (R:Int)=k:=by omega
   have i0:=ZM1 hC w e l2 n3 l4 n5 b14 n15 R u hR hu r fr (k:=k) (by omega) hA hs true R k k (R-k) hk (R-k) 0 (by omega) (fun p hp=>by
    rw[Nat.add_zero]at hp
    obtain⟨s1,s2,s3,s4,s5,s6,s7⟩:=Zdl hA hp
    rw[hp]at h1 h2
    refine ZLK hC w e l2 n3 l4 n5 b14 n15 R u hu r fr hk (ZdH hA k p) s5 (fun rows2 hs2=>?_) (u+1) 0 rows (by omega) ((hs.swap hk s3).congr fun a b _ _=>by simp)
    refine ZMa hC w e l2 n3 l4 n5 b14 n15 R u hR hu r fr hk (Zfw (ZdH hA k p) k s5) (fun rows3 hs3=>?_) (by omega) R 0 rows2 (by omega) (hs2.congr fun a b _ _=>by simp)
    exact ih (k+1) (Zk5 A k p) _ rows3 (by omega) s1 hs3 h1 h2) (fun hp=>by
    rw[Nat.add_zero]at hp
    rw[hp]at h2
    exact h2 rfl)
   simp only[Zd9,Za7,Ze0,Zy6,ZaT,q3,k1,k2,ZrV]
   simp[-List.getD_eq_getElem?_getD,q3,show(k:Int)<(u:Int) by omega]at i0⊢
   exact⟨by omega,i0⟩
  ·have k1:(min (k:Int) (R:Int)).toNat=R:=by omega
   have k2:min (k:Int) (R:Int)=R:=by omega
   have e:R-k=0:=by omega
   rw[e]at h2
   obtain⟨e1,e2⟩:=h2 rfl
   simp only[Zd9,Za7,Ze0,Zy6,ZaT,q3,k1,k2,ZrV]
   simp[-List.getD_eq_getElem?_getD,q3,show(k:Int)<(u:Int) by omega]
   refine tgo hC ZaN Zge ?_
   simp[Zde,q3,e1,e2]
theorem ZNx(huR:u≤R){refs:List Nat}{rows:List zI}{B:Mat}(hs:St R u refs rows B)
 (h1:(∀i,u≤i→i<R→B i u=0)→Ev C (Zd7 w e std rows (ZcD B u u) (e.length:Int) 0 l2) (ZcO w e std rows (ZcD B u u) (e.length:Int) 0 l2) (ZaD 59 r fr)) (h2:¬(∀i,u≤i→i<R→B i u=0)→r=.tup [.agg (.ints .i64 (List.replicate 15 0)), .bool false]∧fr=none):
 ∀(c i:Nat),i+c=R→(∀j,u≤j→j<i→B j u=0)→Ev C (ZfG w e std l2 n3 l4 n5 (u:Int) b14 n15 refs rows R i (ZcD B u (min i u))) (Zev w e std l2 n3 l4 n5 (u:Int) b14 n15 refs rows R i (ZcD B u (min i u))) (ZaD 59 r fr):=by
 have _:=hu
 intro c
 induction c with
 |zero=>
  intro i hc hz
  have i0:=h1 (fun j a b=>hz j a (by omega))
  refine tgo hC ZaN ZmN ?_
  rw[show min i u=u by omega]
  simp[-List.getD_eq_getElem?_getD,ZcH,show ¬(i:Int)<(R:Int) by omega]at i0⊢
  exact i0
 |succ c ih=>
  intro i hc hz
  have hi:i<R:=by omega
  have e1:=hs.v i hi
  have q1:=hs.l i hi
  have q3:=hs.n
  have g1:(Zcp u (B i)).getD u 0=((B i u:Nat):Int):=Za4 _ (by omega)
  have r1:=Za6 u (B i)
  have sl:=Zds B u (min i u)
  refine tgo hC ZaN ZmN ?_
  by_cases hiu:i<u
  ·have i0:=ih (i+1) (by omega) (fun j a b=>by omega)
   rw[show min (i+1) u=i+1 by omega,Zph]at i0
   rw[show min i u=i by omega]at sl⊢
   simp only[ZcH,Zbq,Za7,ZaT,Int.toNat_natCast,e1,Zba,g1]
   simp only[Zbw,r1,q3]
   simp[-List.getD_eq_getElem?_getD,q1,hi,hiu,sl,AV.bx,Zad]at i0⊢
   exact⟨by omega,i0⟩
  ·by_cases h0:B i u=0
   ·have i0:=ih (i+1) (by omega) (fun j a b=>by
     by_cases hji:j=i
     ·subst hji;exact h0
     ·exact hz j a (by omega))
    rw[show min (i+1) u=u by omega]at i0
    rw[show min i u=u by omega]at⊢
    simp only[ZcH,Zbq,Za7,ZaT,Int.toNat_natCast,e1,Zba,g1,h0]
    simp only[Zbw,r1,q3]
    simp[-List.getD_eq_getElem?_getD,q1,hi,hiu]at i0⊢
    exact⟨by omega,i0⟩
   ·obtain⟨x1,x2⟩:=h2 (fun hh=>h0 (hh i (by omega) hi))
    have h0':¬((B i u:Nat):Int)=0:=by omega
    simp only[ZcH,Zbq,Za7,ZaT,Int.toNat_natCast,e1,Zba,g1]
    simp only[Zbw,r1,q3]
    simp[-List.getD_eq_getElem?_getD,q1,hi,hiu,h0,x1,x2]
theorem ZMT{A:Mat}{refs:List Nat}{rows:List zI}(hA:ElM A)(hs:St R u refs rows A)
 (h1:∀B rows,elA R u 0 A=some B→(∀i,u≤i→i<R→B i u=0)→Ev C (Zd7 w e std rows (ZcD B u u) (e.length:Int) 0 l2) (ZcO w e std rows (ZcD B u u) (e.length:Int) 0 l2) (ZaD 59 r fr))
 (h2:(∀B,elA R u 0 A=some B→¬(∀i,u≤i→i<R→B i u=0))→r=.tup [.agg (.ints .i64 (List.replicate 15 0)), .bool false]∧fr=none):Ev C (Zc2 w e std l2 n3 l4 n5 (u:Int) (u:Int) b14 n15 0 refs rows) (Zca w e std l2 n3 l4 n5 (u:Int) (u:Int) b14 n15 0 refs rows) (ZaD 59 r fr):=by
 have i0:=ZOg hC w e l2 n3 l4 n5 b14 n15 R u hR hu r fr u 0 A refs rows (by omega) hA hs (fun B refs2 rows2 he hs2=>by
  obtain⟨_,_,huR,_⟩:=Zfn (u:=u) u 0 A B hA (Zcv A R) (by omega) (fun _=>Nat.zero_le _) he
  have i1:=ZNx hC w e l2 n3 l4 n5 b14 n15 R u hR hu r fr huR hs2 (h1 B rows2 he) (fun hn=>h2 (fun B2 he2=>by rw[he]at he2;cases he2;exact hn)) R 0 (by omega) (fun j a b=>by omega)
  simpa[ZcD]using i1) (fun he=>h2 (fun B he2=>by rw[he]at he2;cases he2))
 exact i0
end
section
variable {C:Ctx}(hC:C.P=Tryz.prog)(s:zI)(n0 n5 n6:Int)(b7:Bool)(R u:Nat)(hR:R≤100)(hu:u≤100)(r:AV)(fr:Option Fresh)
include hC hR hu
theorem ZGO{k i:Nat}(hk:k<R)(hi:i<R)(hik:i≠k){refs:List Nat}{A:Mat}(hA:ElM A)(m:Int)
 (hn:∀rows,St R u refs rows (fun i' j=>if i'=i then A i j ^^^ Zav (A k j) (A i k)else A i' j)→Ev C (ZdU s (u:Int) n0 n5 n6 b7 k refs m ((i+1:Nat):Int) rows) (ZcP s (u:Int) n0 n5 n6 b7 k refs m ((i+1:Nat):Int) rows) (ZaD 78 r fr)):
 ∀(c n:Nat) (rows:List zI),n+c=u+1→St R u refs rows (fun i' j=>if i'=i∧j<n then A i j ^^^ Zav (A k j) (A i k)else A i' j)→Ev C (ZjU s (u:Int) n0 n5 n6 b7 k refs m i (refs.getD i 0) ((A i k:Nat):Int) ((u+1:Nat):Int) n rows) (ZgC s (u:Int) n0 n5 n6 b7 k refs m i (refs.getD i 0) ((A i k:Nat):Int) ((u+1:Nat):Int) n rows) (ZaD 78 r fr):=by
 intro c
 induction c with
 |zero=>
  intro n rows hc hs
  have i0:=hn rows (hs.congr fun a b _ hb=>by by_cases h:a=i<;>simp[h,show b<n by omega])
  refine tgo hC ZaN Zlv ?_
  simp[-List.getD_eq_getElem?_getD,Zic,show ¬(n:Int)<(u:Int)+1 by omega]at i0⊢
  exact⟨by omega,i0⟩
 |succ c ih=>
  intro n rows hc hs
  have hnu:n<u+1:=by omega
  have e1:rows.getD (refs.getD i 0) []=Zcp u (fun j=>if j<n then A i j ^^^ Zav (A k j) (A i k)else A i j):=by rw[hs.v i hi];exact Za2 fun j _=>by simp
  have e2:rows.getD (refs.getD k 0) []=Zcp u (A k):=by rw[hs.v k hk];exact Za2 fun j _=>by rw[if_neg (fun e=>hik e.1.symm)]
  have q1:=hs.l i hi
  have q2:=hs.l k hk
  have q3:=hs.n
  have x1:=Zbx (hA k n) (hA i k)
  have s1:=hs.setcell hi n (A i n ^^^ Zav (A k n) (A i k))
  have i0:=ih (n+1) _ (by omega) (s1.congr fun a b _ hb=>by
   by_cases ha:a=i
   ·by_cases hb2:b=n
    ·simp[ha,hb2]
    ·have:b<n+1↔b<n:=by omega
     simp[-List.getD_eq_getElem?_getD,ha,hb2,this]
   ·simp[ha])
  have g1:(Zcp u (fun j=>if j<n then A i j ^^^ Zav (A k j) (A i k)else A i j)).getD n 0=((A i n:Nat):Int):=by rw[Za4 _ hnu];simp
  have g2:(Zcp u (A k)).getD n 0=((A k n:Nat):Int):=Za4 _ hnu
  have x2:=ZeA (r:=A i n) (k:=Zav (A k n) (A i k)) (by have:=hA i n;omega) (by omega)
  have x3:gM ((A k n:Nat):Int) ((A i k:Nat):Int)=((Zav (A k n) (A i k):Nat):Int):=rfl
  have b1:=Zbm (hA k n)
  have b2:=Zbm (hA i k)
  have r1:=Za6 u (fun j=>if j<n then A i j ^^^ Zav (A k j) (A i k)else A i j)
  have r2:=Za6 u (A k)
  refine tgo hC ZaN Zlv ?_
  simp only[Zic,Zbq,Za7,ZaT,Int.toNat_natCast,e1,e2,Zba,g1,g2,x3,x2,ZuB,Nat.sub_zero]
  simp only[Zbw,r1,r2,q3]
  simp[-List.getD_eq_getElem?_getD,q1,q2,hk,hnu,b1,b2,show(n:Int)<(u:Int)+1 by omega]at i0⊢
  exact⟨by omega,i0⟩
theorem ZFq{k:Nat}(hk:k<R){refs:List Nat}{A:Mat}(hA:ElM A)
 (hn:∀rows,St R u refs rows (ZiY A k)→Ev C (ZcQ s (u:Int) n0 n5 n6 b7 ((k+1:Nat):Int) refs rows) (Zcg s (u:Int) n0 n5 n6 b7 ((k+1:Nat):Int) refs rows) (ZaD 78 r fr)) (hku:k<u):
 ∀(c i:Nat) (rows:List zI),i+c=R→St R u refs rows (fun i' j=>if i'<i then ZiY A k i' j else A i' j)→Ev C (ZdU s (u:Int) n0 n5 n6 b7 k refs R i rows) (ZcP s (u:Int) n0 n5 n6 b7 k refs R i rows) (ZaD 78 r fr):=by
 intro c
 induction c with
 |zero=>
  intro i rows hc hs
  have i0:=hn rows (hs.congr fun a b ha _=>by rw[if_pos (by omega)])
  refine tgo hC ZaN ZmX ?_
  simp[-List.getD_eq_getElem?_getD,Zdg,show ¬(i:Int)<R by omega]at i0⊢
  exact⟨by omega,i0⟩
 |succ c ih=>
  intro i rows hc hs
  have hi:i<R:=by omega
  have e1:rows.getD (refs.getD i 0) []=Zcp u (A i):=by rw[hs.v i hi];exact Za2 fun j _=>by rw[if_neg (Nat.lt_irrefl i)]
  have q1:=hs.l i hi
  have q3:=hs.n
  have g1:(Zcp u (A i)).getD k 0=((A i k:Nat):Int):=Za4 _ (by omega)
  have r1:=Za6 u (A i)
  refine tgo hC ZaN ZmX ?_
  by_cases hik:i=k
  ·have i0:=ih (i+1) rows (by omega) (hs.congr fun a b _ _=>by
    by_cases ha:a<i
    ·rw[if_pos ha,if_pos (by omega)]
    ·rw[if_neg ha]
     by_cases ha2:a<i+1
     ·have:a=k:=by omega
      rw[if_pos ha2,this,ZiY,if_pos rfl]
     ·rw[if_neg ha2])
   simp only[Zdg,Zbq,Za7,ZaT,Int.toNat_natCast,e1,Zba,g1]
   simp only[Zbw,r1,q3]
   subst hik
   simp[-List.getD_eq_getElem?_getD,q1,hk,show i<u+1 by omega]at i0⊢
   exact⟨by omega,i0⟩
  ·by_cases h0:A i k=0
   ·have i0:=ih (i+1) rows (by omega) (hs.congr fun a b _ _=>by
     by_cases ha:a<i
     ·rw[if_pos ha,if_pos (by omega)]
     ·rw[if_neg ha]
      by_cases ha2:a<i+1
      ·have:a=i:=by omega
       rw[if_pos ha2,this,ZiY,if_neg hik,h0,Zb1 (hA k b),Nat.xor_zero]
      ·rw[if_neg ha2])
    simp only[Zdg,Zbq,Za7,ZaT,Int.toNat_natCast,e1,Zba,g1,h0]
    simp only[Zbw,r1,q3]
    have hik':¬(i:Int)=k:=by omega
    simp[-List.getD_eq_getElem?_getD,q1,hk,hi,show k<u+1 by omega,show(i:Int)<R by omega,hik',hik]at i0⊢
    exact⟨by omega,i0⟩
   ·have i0:=ZGO hC s n0 n5 n6 b7 R u hR hu r fr (k:=k) (i:=i) hk hi hik (refs:=refs) (A:=fun i' j=>if i'<i then ZiY A k i' j else A i' j) (fun a b=>by
     show(if a<i then ZiY A k a b else A a b)<16
     split
     ·exact ZwQ hA k a b
     ·exact hA a b) R (fun rows2 hs2=>ih (i+1) rows2 (by omega) (hs2.congr fun a b ha hb=>by
      by_cases hai:a=i
      ·subst hai
       simp only[if_true,Nat.lt_irrefl,if_false,Nat.lt_add_one,ZiY,hik]
       by_cases hka:k<a<;>simp[hka]
      ·rw[if_neg hai]
       by_cases ha2:a<i
       ·rw[if_pos ha2,if_pos (by omega)]
       ·rw[if_neg ha2,if_neg (by omega)])) (u+1) 0 rows (by omega) (hs.congr fun a b _ _=>by simp)
    rw[if_neg (Nat.lt_irrefl i)]at i0
    simp only[Zdg,Zbq,Za7,ZaT,Int.toNat_natCast,e1,Zba,g1]
    simp only[Zbw,r1,q3]
    have hik':¬(i:Int)=k:=by omega
    have h0':¬((A i k:Nat):Int)=0:=by omega
    simp[-List.getD_eq_getElem?_getD,q1,hk,hi,show k<u+1 by omega,show(i:Int)<R by omega,hik',hik,h0',h0]at i0⊢
    exact i0
end
section
variable {C:Ctx}(hC:C.P=Tryz.prog)(s:zI)(n0 n5 n6:Int)(b7:Bool)(R u:Nat)(hu:u≤100)(r:AV)(fr:Option Fresh)
include hC hu
theorem ZF5{k:Nat}(hk:k<R){refs:List Nat}{A:Mat}(hA:ElM A){c0:Nat}(hc0:c0<16)
 (hn:∀rows,St R u refs rows (ZbF A k c0)→Ev C (ZdU s (u:Int) n0 n5 n6 b7 k refs R 0 rows) (ZcP s (u:Int) n0 n5 n6 b7 k refs R 0 rows) (ZaD 78 r fr)):
 ∀(c n:Nat) (rows:List zI),n+c=u+1→St R u refs rows (fun i' j=>if i'=k∧j<n then Zav (A k j) c0 else A i' j)→Ev C (ZfV s (u:Int) n0 n5 n6 b7 k ((c0:Nat):Int) ((u+1:Nat):Int) refs n rows) (ZeC s (u:Int) n0 n5 n6 b7 k ((c0:Nat):Int) ((u+1:Nat):Int) refs n rows) (ZaD 78 r fr):=by
 intro c
 induction c with
 |zero=>
  intro n rows hc hs
  have i0:=hn rows (hs.congr fun a b _ hb=>by
   unfold ZbF
   by_cases h:a=k
   ·simp[h,show b<n by omega]
   ·simp[h])
  have q3:=hs.n
  refine tgo hC ZaN Zms ?_
  simp[-List.getD_eq_getElem?_getD,Zhc,q3,show ¬(n:Int)<(u:Int)+1 by omega]at i0⊢
  exact i0
 |succ c ih=>
  intro n rows hc hs
  have hnu:n<u+1:=by omega
  have e2:rows.getD (refs.getD k 0) []=Zcp u (fun j=>if j<n then Zav (A k j) c0 else A k j):=by rw[hs.v k hk];exact Za2 fun j _=>by simp
  have q2:=hs.l k hk
  have q3:=hs.n
  have s1:=hs.setcell hk n (Zav (A k n) c0)
  have i0:=ih (n+1) _ (by omega) (s1.congr fun a b _ hb=>by
   by_cases ha:a=k
   ·by_cases hb2:b=n
    ·simp[ha,hb2]
    ·have:b<n+1↔b<n:=by omega
     simp[-List.getD_eq_getElem?_getD,ha,hb2,this]
   ·simp[ha])
  have g2:(Zcp u (fun j=>if j<n then Zav (A k j) c0 else A k j)).getD n 0=((A k n:Nat):Int):=by rw[Za4 _ hnu];simp
  have x3:gM ((A k n:Nat):Int) ((c0:Nat):Int)=((Zav (A k n) c0:Nat):Int):=rfl
  have b1:=Zbm (hA k n)
  have b2:=Zbm hc0
  have r2:=Za6 u (fun j=>if j<n then Zav (A k j) c0 else A k j)
  refine tgo hC ZaN Zms ?_
  simp only[Zhc,Zbq,Za7,ZaT,Int.toNat_natCast,e2,Zba,g2,x3,ZuB,Nat.sub_zero]
  simp only[Zbw,r2,q3]
  simp[-List.getD_eq_getElem?_getD,q2,hk,hnu,b1,b2,show(n:Int)<(u:Int)+1 by omega]at i0⊢
  exact⟨by omega,i0⟩
end
section
variable {C:Ctx}(hC:C.P=Tryz.prog)(s:zI)(n0 n5 n6:Int)(b7:Bool)(R u:Nat)(hR:R≤100)(hu:u≤100)(r:AV)(fr:Option Fresh)
include hC hR hu
theorem ZIo{k:Nat}(hku:k<u){refs:List Nat}{rows:List zI}{A:Mat}(hA:ElM A)(hs:St R u refs rows A)(b22:Bool)(n23 n24:Int)(j25 j26:Nat)(hk:k<R):
 ∀(c i:Nat),i+c=R-k→(∀p,piv A k c (k+i)=some p→Ev C (ZfV s (u:Int) n0 n5 n6 b7 k ((ZiJ (ZaX A k p k k):Nat):Int) ((u+1:Nat):Int) ((refs.set k (refs.getD p 0)).set p (refs.getD k 0)) 0 rows) (ZeC s (u:Int) n0 n5 n6 b7 k ((ZiJ (ZaX A k p k k):Nat):Int) ((u+1:Nat):Int) ((refs.set k (refs.getD p 0)).set p (refs.getD k 0)) 0 rows) (ZaD 78 r fr))→(piv A k c (k+i)=none→r=.tup [.nils, .bool false]∧fr=none)→Ev C (Zkd s (u:Int) n0 n5 n6 b7 k refs rows k (R-k) ((R-k:Nat):Int) b22 n23 n24 j25 j26 i) (ZgP s (u:Int) n0 n5 n6 b7 k refs rows k (R-k) ((R-k:Nat):Int) b22 n23 n24 j25 j26 i) (ZaD 78 r fr):=by
 intro c
 induction c with
 |zero=>
  intro i hc h1 h2
  obtain⟨e1,e2⟩:=h2 rfl
  refine tgo hC ZaN Zhk ?_
  simp[Zdc,show ¬(i:Int)<((R-k:Nat):Int) by omega,e1,e2]
 |succ c ih=>
  intro i hc h1 h2
  have hi:k+i<R:=by omega
  have e1:=hs.v (k+i) hi
  have q1:=hs.l (k+i) hi
  have q3:=hs.n
  have g1:(Zcp u (A (k+i))).getD k 0=((A (k+i) k:Nat):Int):=Za4 _ (by omega)
  have r1:=Za6 u (A (k+i))
  have k1:((k:Int)+(i:Int)).toNat=k+i:=by omega
  have hlt:(i:Int)<((R-k:Nat):Int):=by omega
  have hlt2:i<R-k:=by omega
  refine tgo hC ZaN Zhk ?_
  rw[piv]at h1 h2
  by_cases h0:A (k+i) k=0
  ·rw[if_pos h0]at h2
   have i0:=ih (i+1) (by omega) (fun p hp=>h1 p (by rw[if_pos h0];exact hp)) h2
   simp only[Zdc,Zbq,Za7,ZaT,Int.toNat_natCast,e1,Zba,g1,h0]
   simp only[Zbw,r1,q3]
   simp[-List.getD_eq_getElem?_getD,q1,hi,hlt,hlt2,show k<u+1 by omega]at i0⊢
   exact⟨by omega,i0⟩
  ·have i0:=h1 (k+i) (by rw[if_neg h0])
   have hs':=hs.swap hk hi
   obtain⟨refs',hr'⟩:∃x,x=(refs.set k (refs.getD (k+i) 0)).set (k+i) (refs.getD k 0):=⟨_,rfl⟩
   rw[←hr']at hs' i0
   have e2:=hs'.v k hk
   have q4:=hs'.l k hk
   have q5:=hs'.n
   have sk:ZaX A k (k+i) k k=A (k+i) k:=by simp[ZaX]
   have g2:(Zcp u (ZaX A k (k+i) k)).getD k 0=((A (k+i) k:Nat):Int):=by rw[Za4 _ (by omega),sk]
   have r2:=Za6 u (ZaX A k (k+i) k)
   have b1:=Zbm (hA (k+i) k)
   have h0':¬((A (k+i) k:Nat):Int)=0:=by omega
   rw[sk]at i0
   have x1:gI ((A (k+i) k:Nat):Int)=((ZiJ (A (k+i) k):Nat):Int):=rfl
   simp only[Zdc,Zbq,Za7,ZAx,ZaT,Zho,k1,Int.toNat_natCast,e1,Zba,g1,←hr',e2,g2,x1]
   simp only[Zbw,Ze0,r1,r2,q3,q5]
   simp[-List.getD_eq_getElem?_getD,q1,q4,hi,hk,hlt,hlt2,h0',h0,b1,List.length_set,q3,show k<u+1 by omega]at i0⊢
   exact⟨by omega,i0⟩
theorem ZG5:∀(c k:Nat) (A:Mat) (refs:List Nat) (rows:List zI),k+c=u→ElM A→St R u refs rows A→(∀B refs rows,elA R c k A=some B→St R u refs rows B→Ev C (Zfq s (u:Int) n0 n5 n6 b7 refs rows R 0 []) (Zeu s (u:Int) n0 n5 n6 b7 refs rows R 0 []) (ZaD 78 r fr))→(elA R c k A=none→r=.tup [.nils, .bool false]∧fr=none)→Ev C (ZcQ s (u:Int) n0 n5 n6 b7 k refs rows) (Zcg s (u:Int) n0 n5 n6 b7 k refs rows) (ZaD 78 r fr):=by
 intro c
 induction c with
 |zero=>
  intro k A refs rows hc hA hs h1 h2
  have i0:=h1 A refs rows rfl hs
  have q3:=hs.n
  refine tgo hC ZaN Zl2 ?_
  simp[-List.getD_eq_getElem?_getD,Zet,q3,show ¬(k:Int)<(u:Int) by omega]at i0⊢
  exact i0
 |succ c ih=>
  intro k A refs rows hc hA hs h1 h2
  have q3:=hs.n
  refine tgo hC ZaN Zl2 ?_
  rw[elA]at h1 h2
  by_cases hk:k<R
  ·have k1:(min (k:Int) (R:Int)).toNat=k:=by omega
   have k2:min (k:Int) (R:Int)=k:=by omega
   have i0:=ZIo hC s n0 n5 n6 b7 R u hR hu r fr (k:=k) (by omega) hA hs true R k k (R-k) hk (R-k) 0 (by omega) (fun p hp=>by
    rw[Nat.add_zero]at hp
    obtain⟨s1,s2,s3,s4,s5,s6,s7⟩:=Zdl hA hp
    rw[hp]at h1 h2
    refine ZF5 hC s n0 n5 n6 b7 R u hu r fr hk (ZdH hA k p) s5 (fun rows2 hs2=>?_) (u+1) 0 rows (by omega) ((hs.swap hk s3).congr fun a b _ _=>by simp)
    refine ZFq hC s n0 n5 n6 b7 R u hR hu r fr hk (Zfw (ZdH hA k p) k s5) (fun rows3 hs3=>?_) (by omega) R 0 rows2 (by omega) (hs2.congr fun a b _ _=>by simp)
    exact ih (k+1) (Zk5 A k p) _ rows3 (by omega) s1 hs3 h1 h2) (fun hp=>by
    rw[Nat.add_zero]at hp
    rw[hp]at h2
    exact h2 rfl)
   simp only[Zet,Za7,Ze0,Zy6,ZaT,q3,k1,k2,ZrV]
   simp[-List.getD_eq_getElem?_getD,q3,show(k:Int)<(u:Int) by omega]at i0⊢
   exact⟨by omega,i0⟩
  ·have k1:(min (k:Int) (R:Int)).toNat=R:=by omega
   have k2:min (k:Int) (R:Int)=R:=by omega
   have e:R-k=0:=by omega
   rw[e]at h2
   obtain⟨e1,e2⟩:=h2 rfl
   simp only[Zet,Za7,Ze0,Zy6,ZaT,q3,k1,k2,ZrV]
   simp[-List.getD_eq_getElem?_getD,q3,show(k:Int)<(u:Int) by omega]
   refine tgo hC ZaN Zhk ?_
   simp[Zdc,q3,e1,e2]
theorem ZIY(huR:u≤R){refs:List Nat}{rows:List zI}{B:Mat}(hs:St R u refs rows B)
 (h1:(∀i,u≤i→i<R→B i u=0)→Ev C (ZcY (u:Int) rows (ZcD B u u) 0 []) (Zcd (u:Int) rows (ZcD B u u) 0 []) (ZaD 78 r fr)) (h2:¬(∀i,u≤i→i<R→B i u=0)→r=.tup [.nils, .bool false]∧fr=none):
 ∀(c i:Nat),i+c=R→(∀j,u≤j→j<i→B j u=0)→Ev C (Zfq s (u:Int) n0 n5 n6 b7 refs rows R i (ZcD B u (min i u))) (Zeu s (u:Int) n0 n5 n6 b7 refs rows R i (ZcD B u (min i u))) (ZaD 78 r fr):=by
 have _:=hu
 intro c
 induction c with
 |zero=>
  intro i hc hz
  have i0:=h1 (fun j a b=>hz j a (by omega))
  refine tgo hC ZaN ZnO ?_
  rw[show min i u=u by omega]
  simp[-List.getD_eq_getElem?_getD,Zc4,show ¬(i:Int)<(R:Int) by omega]at i0⊢
  exact i0
 |succ c ih=>
  intro i hc hz
  have hi:i<R:=by omega
  have e1:=hs.v i hi
  have q1:=hs.l i hi
  have q3:=hs.n
  have g1:(Zcp u (B i)).getD u 0=((B i u:Nat):Int):=Za4 _ (by omega)
  have r1:=Za6 u (B i)
  have sl:=Zds B u (min i u)
  refine tgo hC ZaN ZnO ?_
  by_cases hiu:i<u
  ·have i0:=ih (i+1) (by omega) (fun j a b=>by omega)
   rw[show min (i+1) u=i+1 by omega,Zph]at i0
   rw[show min i u=i by omega]at sl⊢
   simp only[Zc4,Zbq,Za7,ZaT,Int.toNat_natCast,e1,Zba,g1]
   simp only[Zbw,r1,q3]
   simp[-List.getD_eq_getElem?_getD,q1,hi,hiu,sl,AV.bx,Zad]at i0⊢
   exact⟨by omega,i0⟩
  ·by_cases h0:B i u=0
   ·have i0:=ih (i+1) (by omega) (fun j a b=>by
     by_cases hji:j=i
     ·subst hji;exact h0
     ·exact hz j a (by omega))
    rw[show min (i+1) u=u by omega]at i0
    rw[show min i u=u by omega]at⊢
    simp only[Zc4,Zbq,Za7,ZaT,Int.toNat_natCast,e1,Zba,g1,h0]
    simp only[Zbw,r1,q3]
    simp[-List.getD_eq_getElem?_getD,q1,hi,hiu]at i0⊢
    exact⟨by omega,i0⟩
   ·obtain⟨x1,x2⟩:=h2 (fun hh=>h0 (hh i (by omega) hi))
    have h0':¬((B i u:Nat):Int)=0:=by omega
    simp only[Zc4,Zbq,Za7,ZaT,Int.toNat_natCast,e1,Zba,g1]
    simp only[Zbw,r1,q3]
    simp[-List.getD_eq_getElem?_getD,q1,hi,hiu,h0,x1,x2]
theorem ZzL{A:Mat}{refs:List Nat}{rows:List zI}(hA:ElM A)(hs:St R u refs rows A)
 (h1:∀B rows,elA R u 0 A=some B→(∀i,u≤i→i<R→B i u=0)→Ev C (ZcY (u:Int) rows (ZcD B u u) 0 []) (Zcd (u:Int) rows (ZcD B u u) 0 []) (ZaD 78 r fr))
 (h2:(∀B,elA R u 0 A=some B→¬(∀i,u≤i→i<R→B i u=0))→r=.tup [.nils, .bool false]∧fr=none):Ev C (ZcQ s (u:Int) n0 n5 n6 b7 0 refs rows) (Zcg s (u:Int) n0 n5 n6 b7 0 refs rows) (ZaD 78 r fr):=by
 have i0:=ZG5 hC s n0 n5 n6 b7 R u hR hu r fr u 0 A refs rows (by omega) hA hs (fun B refs2 rows2 he hs2=>by
  obtain⟨_,_,huR,_⟩:=Zfn (u:=u) u 0 A B hA (Zcv A R) (by omega) (fun _=>Nat.zero_le _) he
  have i1:=ZIY hC s n0 n5 n6 b7 R u hR hu r fr huR hs2 (h1 B rows2 he) (fun hn=>h2 (fun B2 he2=>by rw[he]at he2;cases he2;exact hn)) R 0 (by omega) (fun j a b=>by omega)
  simpa[ZcD]using i1) (fun he=>h2 (fun B he2=>by rw[he]at he2;cases he2))
 exact i0
end
end Go.Proofs.YtjhldefnjghcdaaGreat
