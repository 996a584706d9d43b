/- Packed frames are valid; frames in any order, some more than once, among others. No condition. -/
import Derived.Test.YtjhdnpmojhkbjaaWa
import Derived.KernelRfl
namespace Go.Proofs.Ytjhdnpmojhkbjaa
theorem ZrY:∀ {ps:List AV},Zn0 ps=0→∀p∈ps,pkE (kI p) (kC p) (kD p)=0
 |[],_,p,hp=>by simp at hp
 |q::ps,h,p,hp=>by
  unfold Zn0 at h
  split at h
  ·rename_i h1
   rcases List.mem_cons.1 hp with rfl |hp
   ·exact h1
   ·exact ZrY h p hp
  ·rename_i h1;exact absurd h h1
theorem Zuu{ps:List AV}(h:ZbV ps=0):∀p∈ps,bytP (pkB p):=fun p hp=>by
 have h1:Zn0 ps=0:=by
  unfold ZbV at h
  split at h
  ·cases h
  ·exact h
 have h2:=ZrY h1 p hp
 unfold pkE at h2
 split at h2
 ·rename_i h3
  split at h2
  ·cases h2
  ·rename_i h4
   obtain⟨h5,h6⟩:=h3
   have h5:=of_decide_eq_true h5
   have h6:=of_decide_eq_true h6
   intro b hb
   simp only[pkB,List.mem_cons]at hb
   rcases hb with rfl |rfl |rfl |hb
   ·exact h5
   ·exact h6
   ·omega
   ·exact Zji h2 b hb
 ·cases h2
theorem ZlL{k:Int}(h:k≤255):bytP (pkB (Zf7 k)):=by
 have hk:kD (Zf7 k)=List.replicate k.toNat 0:=rfl
 intro b hb
 simp only[pkB,List.mem_cons,hk]at hb
 rcases hb with rfl |rfl |rfl |hb
 ·show(0:Int)≤255∧(255:Int)≤255;omega
 ·show(0:Int)≤0∧(0:Int)≤255;omega
 ·rw[List.length_replicate];omega
 ·rw[(List.mem_replicate.1 hb).2];omega
theorem Zqx{n:Int}{ps:List AV}(hn:4≤n∧n≤24)(h:∀p∈ps,bytP (pkB p)):∀p∈Za1 n ps,bytP (pkB p):=fun p hp=>by
 have h1:=Int.tmod_nonneg n (show 0≤(ZaF ps:Int) by omega)
 have h2:=Int.tmod_lt_of_pos (ZaF ps:Int) (show 0<n by omega)
 unfold Za1 at hp
 generalize (ZaF ps:Int).tmod n=R at*
 split at hp
 ·exact h p hp
 ·split at hp
  ·rcases List.mem_append.1 hp with hp |hp
   ·exact h p hp
   ·rw[List.mem_singleton]at hp;subst hp;exact ZlL (by omega)
  ·rcases List.mem_append.1 hp with hp |hp
   ·exact h p hp
   ·rw[List.mem_singleton]at hp;subst hp;exact ZlL (by omega)
theorem ZpZ(S:List Int)(x:Int)(N:Int):(0≤Zg6 S x N∧Zg6 S x N≤N-1)∨Zg6 S x N=255:=by
 unfold Zg6
 split
 ·rename_i h
  obtain⟨h1,h2⟩:=h
  have:=(ZqE S x).2 h1
  rw[List.getD_eq_getElem?_getD,List.getElem?_eq_getElem h1,Option.getD_some]at h2⊢
  left;omega
 ·right;rfl
theorem ZoL{xs:List Int}(h:bytP xs):ZaG xs=0:=by
 unfold ZaG
 rw[if_pos]
 rw[List.all_eq_true]
 intro x hx
 exact decide_eq_true (h x hx)
theorem ZAf{hi n f:Int}(h:0≤n∧n≤63)(h2:0≤f∧f≤hi∨f=255):okF hi n f=true:=decide_eq_true ⟨h,h2⟩
theorem ZpV{a b c n f:Int}{ds:List Int}(h1:0≤c∧c≤b-1)(h2:0≤n∧n≤63)(h3:0≤f∧f≤a-1∨f=255)(h4:(ds.length:Int)=a)(h5:bytP ds):ZdP a b c n f ds=0:=by
 unfold ZdP Zbn Zal
 rw[if_pos h1,ZAf h2 h3,decide_eq_true h4,ZoL h5]
 rfl
def chS(c':Int)(x:AV):AV:=.agg (.gen [.int .i64 c', .int .i64 (AV.toI (AV.cellAt x 1)), .int .i64 (AV.toI (AV.cellAt x 2)), .list (.ints .i64 (AV.toIs (AV.cellAt x 3)))])
theorem Zoi{N K:Nat}{b c c' d:Int}{Q:List AV}(hB:(Zag Q).length=K*N)(hQ:∀q∈Q,bytP (pkB q))(hd:0≤d)(hc:0≤c'∧c'≤b-1)(i:Nat)(hi:i<K):frE N b (chS c' (Zdd c d N (Zag Q) (Zah 0 Q) i))=0:=by
 have h1:(i+1)*N≤K*N:=Nat.mul_le_mul_right N (by omega)
 have h2:=Int.tmod_nonneg 64 (show 0≤d+(i:Int) by omega)
 have h3:=Int.tmod_lt_of_pos (d+(i:Int)) (show (0:Int)<64 by decide)
 have h4:(i+1)*N=i*N+N:=Nat.succ_mul i N
 refine ZpV hc ⟨h2,by show(d+(i:Int)).tmod 64≤63;omega⟩ (ZpZ _ _ _) ?_ (((ZwB hQ).drop _).take _)
 show((((Zag Q).drop (i*N)).take N).length:Int)=N
 rw[List.length_take,List.length_drop];omega
theorem ZlA{a b:Int} :∀ {fs:List AV},(∀f∈fs,frE a b f=0)→ZkM a b fs=0
 |[],_=>rfl
 |f::fs,h=>by rw[ZkM,if_pos (h f (by simp))];exact ZlA fun g hg=>h g (by simp[hg])
theorem ZkJ{a b:Int}{fs:List AV}(hl:fs.length≤40)(h:∀f∈fs,frE a b f=0):Zqc a b fs=0:=by
 rw[Zqc,if_neg (by omega),ZlA h]
theorem Zwe:∀ {a b:List AV},StrN a→StrN b→(∀y,y∈a↔y∈b)→a=b
 |[],[],_,_,_=>rfl
 |[],y::b,_,_,h=>by have:=(h y).2 (by simp);simp at this
 |x::a,[],_,_,h=>by have:=(h x).1 (by simp);simp at this
 |x::a,y::b,ha,hb,h=>by
  have ha1:∀z∈a,Zav x<Zav z:=fun z hz=>List.rel_of_pairwise_cons ha hz
  have hb1:∀z∈b,Zav y<Zav z:=fun z hz=>List.rel_of_pairwise_cons hb hz
  have e:x=y:=by
   rcases List.mem_cons.1 ((h x).1 (by simp))with h1 |h1
   ·exact h1
   ·rcases List.mem_cons.1 ((h y).2 (by simp))with h2 |h2
    ·exact h2.symm
    ·have:=ha1 y h2;have:=hb1 x h1;omega
  subst e
  rw[Zwe (List.Pairwise.of_cons ha) (List.Pairwise.of_cons hb) fun z=>?_]
  constructor
  ·intro hz
   rcases List.mem_cons.1 ((h z).1 (by simp[hz]))with h1 |h1
   ·have:=ha1 z hz;rw[h1]at this;omega
   ·exact h1
  ·intro hz
   rcases List.mem_cons.1 ((h z).2 (by simp[hz]))with h1 |h1
   ·have:=hb1 z hz;rw[h1]at this;omega
   ·exact h1
theorem ZtD{d κ:Int}{i j:Nat}(hd:0≤d)(hκ:(κ-d)%64=0)(h1:i≤j+32)(h2:j≤i+31):ZfV (κ+j) ((d+i).tmod 64)=κ+i:=by
 have e:(d+(i:Int)).tmod 64=(d+i)%64:=Int.tmod_eq_emod_of_nonneg (by omega)
 rw[e,ZfV,ZfO]
 by_cases h:j≤i
 ·have e2:((d+(i:Int))%64-(κ+j))%64=(i:Int)-j:=by omega
  rw[e2,if_pos (by omega)];omega
 ·have e2:((d+(i:Int))%64-(κ+j))%64=64+(i:Int)-j:=by omega
  rw[e2,if_neg (by omega)];omega
section
variable {N K:Nat}{c d κ:Int}{Q:List AV}(hd:0≤d)(hK:K≤24)
include hd hK
theorem Zqw{i j:Nat}(hi:i<K)(hj:j<K){B S:List Int}(h:Zdd c d N B S i=Zdd c d N B S j):i=j:=by
 have h1:ctF (Zdd c d N B S i)=ctF (Zdd c d N B S j):=by rw[h]
 have h1:(d+(i:Int)).tmod 64=(d+(j:Int)).tmod 64:=h1
 have e:(d+(i:Int)).tmod 64=(d+i)%64:=Int.tmod_eq_emod_of_nonneg (by omega)
 have e2:(d+(j:Int)).tmod 64=(d+j)%64:=Int.tmod_eq_emod_of_nonneg (by omega)
 omega
theorem Zkg(hκ:(κ-d)%64=0):∀(X:List AV),(∀x∈X,chF x=c→∃i,i<K∧x=Zdd c d N (Zag Q) (Zah 0 Q) i)→∀j,j<K→∀y,y∈ZiY c X (κ+(j:Nat))↔∃i,i<K∧Zdd c d N (Zag Q) (Zah 0 Q) i∈X∧y=Zqd N c d κ Q i
 |[],_,j,_,y=>by simp[ZiY]
 |x::X,h,j,hj,y=>by
  have hX:∀z∈X,chF z=c→∃i,i<K∧z=Zdd c d N (Zag Q) (Zah 0 Q) i:=fun z hz=>h z (by simp[hz])
  by_cases hc:chF x=c
  ·obtain⟨i0,hi0,rfl⟩:=h x (by simp) hc
   rw[ZiY,if_pos hc,show ctF (Zdd c d N (Zag Q) (Zah 0 Q) i0)=(d+i0).tmod 64 from rfl,ZtD hd hκ (by omega) (by omega),List.mem_cons,Zkg hκ X hX i0 hi0 y]
   constructor
   ·rintro(h1 |⟨i,h1,h2,h3⟩)
    ·exact⟨i0,hi0,by simp,h1⟩
    ·exact⟨i,h1,by simp[h2],h3⟩
   ·rintro⟨i,h1,h2,h3⟩
    rcases List.mem_cons.1 h2 with h4 |h4
    ·have:=Zqw hd hK h1 hi0 h4
     subst this;exact .inl h3
    ·exact .inr ⟨i,h1,h4,h3⟩
  ·rw[ZiY,if_neg hc,Zkg hκ X hX j hj y]
   constructor
   ·rintro⟨i,h1,h2,h3⟩;exact⟨i,h1,by simp[h2],h3⟩
   ·rintro⟨i,h1,h2,h3⟩
    rcases List.mem_cons.1 h2 with h4 |h4
    ·exact absurd (show chF x=c by rw[←h4];rfl) hc
    ·exact⟨i,h1,h4,h3⟩
theorem Zqy(hd2:d≤63)(hK0:0<K)(X:List AV)(hX:∀x∈X,chF x=c→∃i,i<K∧x=Zdd c d N (Zag Q) (Zah 0 Q) i)(hall:∀i,i<K→Zdd c d N (Zag Q) (Zah 0 Q) i∈Zdd c d N (Zag Q) (Zah 0 Q) 0::X):
 Zdc c (Zdd c d N (Zag Q) (Zah 0 Q) 0::X)=(List.range K).map (Zqd N c d (d+64) Q):=by
 have e:(d+((0:Nat):Int)).tmod 64=(d+((0:Nat):Int))%64:=Int.tmod_eq_emod_of_nonneg (by omega)
 have hκ:(d+64-d)%64=0:=by omega
 have hn:Zbw c (Zdd c d N (Zag Q) (Zah 0 Q) 0::X)=Zqd N c d (d+64) Q 0::ZiY c X (d+64+((0:Nat):Int)):=by
  rw[Zbw,if_pos (show chF (Zdd c d N (Zag Q) (Zah 0 Q) 0)=c from rfl),show ctF (Zdd c d N (Zag Q) (Zah 0 Q) 0)=(d+((0:Nat):Int)).tmod 64 from rfl,e,show(d+((0:Nat):Int))%64+64=d+64+((0:Nat):Int) by omega]
  rfl
 have hm:∀y,y∈Zbw c (Zdd c d N (Zag Q) (Zah 0 Q) 0::X)↔∃i,i<K∧y=Zqd N c d (d+64) Q i:=fun y=>by
  rw[hn,List.mem_cons,Zkg hd hK hκ X hX 0 hK0 y]
  constructor
  ·rintro(h |⟨i,h1,_,h3⟩)
   ·exact⟨0,hK0,h⟩
   ·exact⟨i,h1,h3⟩
  ·rintro⟨i,h1,h2⟩
   rcases List.mem_cons.1 (hall i h1)with h3 |h3
   ·have:=Zqw hd hK h1 hK0 h3
    subst this;exact .inl h2
   ·exact .inr ⟨i,h1,h3,h2⟩
 have hsr:=(ZbC (Zbw c (Zdd c d N (Zag Q) (Zah 0 Q) 0::X))).1
 obtain⟨hc1,hc2⟩:=ZEO hsr
 rw[Zdc]
 refine Zwe hc1 ?_ fun y=>?_
 ·rw[StrN,List.pairwise_map]
  exact List.pairwise_lt_range.imp fun {i j} h=>by show d+64+(i:Int)<d+64+(j:Int);omega
 ·rw[List.mem_map]
  constructor
  ·intro hy
   obtain⟨i,h1,h2⟩:=(hm y).1 (mem_sort.1 (Zm1 hy))
   exact⟨i,List.mem_range.2 h1,h2.symm⟩
  ·rintro⟨i,h1,rfl⟩
   have h1:=List.mem_range.1 h1
   have hin:Zqd N c d (d+64) Q i∈Zax (Zbw c (Zdd c d N (Zag Q) (Zah 0 Q) 0::X)):=mem_sort.2 ((hm _).2 ⟨i,h1,rfl⟩)
   have hf:=hc2 (d+64+i)
   have hin2:Zqd N c d (d+64) Q i∈fkN (d+64+i) (Zax (Zbw c (Zdd c d N (Zag Q) (Zah 0 Q) 0::X))):=fkN_mem.2 ⟨hin,rfl⟩
   cases hfk:fkN (d+64+i) (Zax (Zbw c (Zdd c d N (Zag Q) (Zah 0 Q) 0::X)))with
   |nil=>rw[hfk]at hin2;simp at hin2
   |cons z zs=>
    rw[hfk,List.take_succ_cons,List.take_zero]at hf
    have hz:z∈fkN (d+64+i) (cpN (Zax (Zbw c (Zdd c d N (Zag Q) (Zah 0 Q) 0::X)))):=by rw[hf];simp
    obtain⟨hz1,hz2⟩:=fkN_mem.1 hz
    obtain⟨i',h3,h4⟩:=(hm z).1 (mem_sort.1 (Zm1 hz1))
    have:i'=i:=by
     rw[h4]at hz2
     have:d+64+(i':Int)=d+64+i:=hz2
     omega
    rw[←this,←h4];exact hz1
end
def swp(k:Nat)(X:List AV):List AV:=(X.set k (X.getD (k+1) .top)).set (k+1) (X.getD k .top)
def Ztf:List Int→List AV→List AV
 |[],X=>X
 |s::ss,X=>Ztf ss (swp (1+ZaL s ((X.length:Int)-2)).toNat X)
def Zi4(b:Int)(x:AV):AV:=chS (ZaL (chF x+1) b) x
def Zhe(b:Int):List Int→List AV→List AV
 |_,[]=>[]
 |[],x::xs=>x::Zhe b [] xs
 |s::ss,x::xs=>(if ZaL s 3=0 then [x,Zi4 b x,Zdw x]else [x])++Zhe b ss xs
theorem ZkL(k:Nat)(X:List AV):(swp k X).length=X.length:=by simp[swp]
theorem Zmy{k:Nat}{X:List AV}(hk:k+1<X.length)(y:AV):y∈swp k X↔y∈X:=by
 have e1:X.getD (k+1) .top=X[k+1]:=by simp[hk]
 have e2:X.getD k .top=X[k]:=by simp[show k<X.length by omega]
 rw[swp,e1,e2]
 constructor
 ·intro h
  obtain⟨j,hj,rfl⟩:=List.getElem_of_mem h
  rw[List.getElem_set]
  split
  ·exact List.getElem_mem _
  ·rw[List.getElem_set]
   split
   ·exact List.getElem_mem _
   ·exact List.getElem_mem _
 ·intro h
  obtain⟨j,hj,rfl⟩:=List.getElem_of_mem h
  by_cases h1:j=k
  ·subst h1
   exact List.mem_iff_getElem.2 ⟨j+1,by simp;omega,by simp⟩
  ·by_cases h2:j=k+1
   ·subst h2
    exact List.mem_iff_getElem.2 ⟨k,by simp;omega,by simp⟩
   ·exact List.mem_iff_getElem.2 ⟨j,by simp;omega,by rw[List.getElem_set,if_neg (by omega),List.getElem_set,if_neg (by omega)]⟩
theorem ZuS{k:Nat}{X:List AV}(hk:1≤k):(swp k X)[0]? =X[0]?:=by
 rw[swp,List.getElem?_set_ne (by omega),List.getElem?_set_ne (by omega)]
theorem Zng{s:Int}{n:Nat}(h:2<n):1≤(1+ZaL s ((n:Int)-2)).toNat∧(1+ZaL s ((n:Int)-2)).toNat+1<n:=by
 have h1:=Int.tmod_lt_of_pos s (show 0<(n:Int)-2 by omega)
 have h2:=Int.lt_tmod_of_pos s (show 0<(n:Int)-2 by omega)
 unfold ZaL
 split<;>omega
theorem ZvM:∀(ss:List Int) (X:List AV),2<X.length→(Ztf ss X).length=X.length∧(Ztf ss X)[0]? =X[0]?∧∀y,y∈Ztf ss X↔y∈X
 |[],X,_=>⟨rfl,rfl,fun _=>Iff.rfl⟩
 |s::ss,X,h=>by
  obtain⟨r1,r2⟩:=Zng (s:=s) h
  obtain⟨i1,i2,i3⟩:=ZvM ss (swp (1+ZaL s ((X.length:Int)-2)).toNat X) (by rw[ZkL];exact h)
  rw[ZkL]at i1
  rw[ZuS r1]at i2
  exact⟨i1,i2,fun y=>by rw[show Ztf (s::ss) X=Ztf ss (swp (1+ZaL s ((X.length:Int)-2)).toNat X)from rfl,i3,Zmy r2]⟩
theorem Zke{b:Int} :∀ {ss:List Int} {X:List AV} {y:AV},y∈Zhe b ss X→∃x∈X,y=x∨y=Zi4 b x∨y=Zdw x
 |_,[],y,h=>by simp[Zhe]at h
 |[],x::xs,y,h=>by
  rw[Zhe]at h
  rcases List.mem_cons.1 h with rfl |h
  ·exact⟨y,by simp, .inl rfl⟩
  ·obtain⟨z,h1,h2⟩:=Zke h;exact⟨z,by simp[h1],h2⟩
 |s::ss,x::xs,y,h=>by
  rw[Zhe]at h
  rcases List.mem_append.1 h with h |h
  ·refine⟨x,by simp,?_⟩
   split at h
   ·simpa using h
   ·left;simpa using h
  ·obtain⟨z,h1,h2⟩:=Zke h;exact⟨z,by simp[h1],h2⟩
theorem ZmD{b:Int} :∀ {ss:List Int} {X:List AV} {x:AV},x∈X→x∈Zhe b ss X
 |_,[],x,h=>by simp at h
 |[],z::xs,x,h=>by
  rw[Zhe]
  rcases List.mem_cons.1 h with rfl |h
  ·simp
  ·exact List.mem_cons_of_mem _ (ZmD h)
 |s::ss,z::xs,x,h=>by
  rw[Zhe]
  rcases List.mem_cons.1 h with rfl |h
  ·refine List.mem_append_left _ ?_
   split<;>simp
  ·exact List.mem_append_right _ (ZmD h)
theorem Ztc(b:Int)(ss:List Int)(x:AV)(X:List AV):∃Y,Zhe b ss (x::X)=x::Y:=by
 cases ss with
 |nil=>exact⟨_,rfl⟩
 |cons s ss=>
  rw[Zhe]
  split
  ·exact⟨_,rfl⟩
  ·exact⟨_,rfl⟩
end Go.Proofs.Ytjhdnpmojhkbjaa
/- Contracts as a list. No condition. -/
namespace Go.Proofs.Ytjhdnpmojhkbjaa
theorem ZGd(a b c:Int):ZaH Try.prog 16 [.agg (.gen [.int .i64 a, .int .i64 b]), .int .i64 c, .list (.ints .i64 [])] (.tup [.list (.big shP (exO a b c [])), .int .i64 (ZaI a b c [])]) none:=
 ZhF (xs:=[.agg (.gen [.int .i64 a, .int .i64 b]), .int .i64 c]) (ys:=[]) (ZEW a b c [] rfl) rfl
theorem Zzh(xs:List AV)(h:ZrM xs=true):ZaH Try.prog 21 [.list (.big (.agg [.int .i64, .int .i64, .ints .i64]) xs), .nils] (.bool (decide (xs.map pkT=[]))) none:=
 Zlo (Zwr xs [] h) ⟨Zfa _, .one (.nil (.big shP []) rfl),trivial⟩
theorem Zq7(fs:List AV)(h:Zaw fs=true)(h0:fs≠[]):ZaH Try.prog 17 [.list (.big Zg8 fs)] (.row 0 0) (some ⟨74,4, .big Zg8 (fs.map Zdw)⟩):=by
 obtain⟨hl,hk⟩:=Ze7 h
 cases fs with
 |nil=>exact absurd rfl h0
 |cons f gs=>
  exact start (Zku (f::gs)) fun C hC=>by
   refine go hC ZbI (ZtN std (f::gs)) (by simp) ?_
   have hb:(AV.toIs (AV.cellAt f 3)).length≤1000000:=hk f (by simp)
   have hw:=ZGZ std (f::gs)
   have e1:(f::gs).getD (Int.toNat 0) .top=f:=rfl
   simp only[ZaC,Zar,e1]at hw
   refine go hC ZbI hw ?_ ?_
   ·simp[AV.bx,Zac,Row.len];omega
   ·have:=Zmg hC (f::gs) hl hk gs.length 1 (by simp) (by simp)
    simpa[Zdw]using this
theorem ZsU:ZaH Try.prog 17 [.list (.big Zg8 [])] .nils none:=
 start (Zku []) fun C hC=>go hC ZbI (ZtN std []) (by simp) (fin hC ZbI (ZFb std []) (by simp) rfl rfl)
def k16n:Ctr:=⟨16,0,fun _ a=>match a with |[.agg (.gen [.int .i64 a, .int .i64 b]), .int .i64 c, .list (.ints .i64 [])]=>some (true, .tup [.list (.big shP (exO a b c [])), .int .i64 (ZaI a b c [])],none) |_=>none⟩
theorem ZxL:k16n.OK Try.prog:=fun pa args r fr h=>by
 simp only[k16n]at h
 split at h
 ·cases h
  exact ZGd _ _ _
 ·cases h
def k21n:Ctr:=⟨21,0,fun _ a=>match a with |[.list (.big (.agg [.int .i64, .int .i64, .ints .i64]) xs), .nils]=>some (decide (ZrM xs=true), .bool (decide (xs.map pkT=[])),none) |_=>none⟩
theorem Zya:k21n.OK Try.prog:=fun pa args r fr h=>by
 simp only[k21n]at h
 split at h
 ·simp only[Option.some.injEq,Prod.mk.injEq,decide_eq_true_eq]at h
  obtain⟨h0,rfl,rfl⟩:=h
  exact Zzh _ h0
 ·cases h
def BW1:List Ctr:=[k16n,k21n]++BOq
theorem ZEK:Zap Try.prog BW1:=⟨ZxL,⟨Zya,ZCG⟩⟩
def BW0:List Ctr:=[k29,k34,k36,k35,k37]++BW1
theorem Zu1:Zap Try.prog BW0:=⟨Zv0,⟨Zvt,⟨ZwZ,⟨ZDI,⟨ZDN,ZEK⟩⟩⟩⟩⟩
theorem ZrC:ZaH Try.prog 17 [.list (.ints .i64 [])] (.list (.big Zg8 [])) none:=ZhF (xs:=[]) (ys:=[]) (ZoB [] rfl) rfl
def neB(fs:List AV):Bool:=decide (Zaw fs=true)&&!fs.isEmpty
def k17a:Ctr:=⟨17,1,fun pa a=>match pa with
 |[]=>none
 |b::_=>match a with
  |[.list (.big (.agg [.int .i64, .int .i64, .int .i64, .ints .i64]) fs)]=>some (match b with |true=>neB fs |false=>Zaw fs,(match b with |true=>.row 0 0 |false=>.list (.big Zg8 fs)),(match b with |true=>some ⟨74,4, .big Zg8 (fs.map Zdw)⟩ |false=>none))
  |[.list (.ints .i64 [])]=>some (!b, .list (.big Zg8 []),none)
  |_=>none⟩
theorem ZzC:k17a.OK Try.prog:=fun pa args r fr h=>by
 simp only[k17a]at h
 split at h
 ·cases h
 ·split at h
  ·simp only[Option.some.injEq,Prod.mk.injEq]at h
   obtain⟨h0,rfl,rfl⟩:=h
   split at h0
   ·unfold neB at h0
    rw[Bool.and_eq_true,decide_eq_true_eq]at h0
    exact Zq7 _ h0.1 (fun e=>by rw[e]at h0;simp at h0)
   ·exact ZoB _ h0
  ·simp only[Option.some.injEq,Prod.mk.injEq]at h
   obtain⟨h0,rfl,rfl⟩:=h
   exact ZrC
  ·cases h
def k17e:Ctr:=⟨17,1,fun pa a=>match pa with
 |[]=>none
 |b::_=>match a with
  |[.list (.big (.agg [.int .i64, .int .i64, .int .i64, .ints .i64]) fs)]=>some (match b with |true=>fs.isEmpty |false=>Zaw fs,(match b with |true=>.nils |false=>.list (.big Zg8 fs)),none)
  |[.list (.ints .i64 [])]=>some (!b, .list (.big Zg8 []),none)
  |_=>none⟩
theorem ZyZ:k17e.OK Try.prog:=fun pa args r fr h=>by
 simp only[k17e]at h
 split at h
 ·cases h
 ·split at h
  ·simp only[Option.some.injEq,Prod.mk.injEq]at h
   obtain⟨h0,rfl,rfl⟩:=h
   split at h0
   ·rw[List.isEmpty_iff]at h0
    rw[h0];exact ZsU
   ·exact ZoB _ h0
  ·simp only[Option.some.injEq,Prod.mk.injEq]at h
   obtain⟨h0,rfl,rfl⟩:=h
   exact ZrC
  ·cases h
def BWa:List Ctr:=[k17a]++BW0
theorem Za0:Zap Try.prog BWa:=⟨ZzC,Zu1⟩
def BWe:List Ctr:=[k17e]++BW0
theorem Zn7:Zap Try.prog BWe:=⟨ZyZ,Zu1⟩
end Go.Proofs.Ytjhdnpmojhkbjaa
/- FrameWhole: the law returns true. No condition. -/
namespace Go.Proofs.Ytjhdnpmojhkbjaa
set_option maxRecDepth 20000
section
variable {C:Ctx}(hC:C.P=Try.prog)(N:Nat)(b c d:Int)(ps L:List AV)(hN:4≤N∧N≤24)(R:List AFrame→Zaa→Prop)
include hC hN
end
theorem Zqe{c d:Int}{N K:Nat}{B S:List Int}{f:AV}(h:f∈Zge c d N B S K):∃i,i<K∧f=Zdd c d N B S i:=by
 rw[Zge,List.mem_map]at h
 obtain⟨i,h1,h2⟩:=h
 exact⟨i,List.mem_range.1 h1,h2.symm⟩
theorem Zrx{N:Nat}(hN:N≤24)(c d:Int)(B S:List Int)(i:Nat):(AV.toIs (AV.cellAt (Zdd c d N B S i) 3)).length≤1000000:=by
 show((B.drop (i*N)).take N).length≤1000000
 rw[List.length_take];omega
theorem Zlm{fs:List AV}(hl:fs.length≤1000)(h:∀f∈fs,(AV.toIs (AV.cellAt f 3)).length≤1000000):Zaw fs=true:=by
 unfold Zaw
 rw[Bool.and_eq_true,decide_eq_true_eq,List.all_eq_true]
 exact⟨by omega,fun f hf=>decide_eq_true (h f hf)⟩
theorem ZkX{a b c d:Int}{ps:List AV}(h1:Zat a b=0)(h2:Zbn b c=0)(h3:0≤d∧d≤63)(h4:ZbV ps=0)(hf:ZbW ps=true)(hK:ZbG a ps≤24):∃N K:Nat,a=N∧(4≤N∧N≤24)∧K≤24∧ZbG a ps=K∧(Zag (Za1 a ps)).length=K*N∧(∀q∈Za1 a ps,bytP (pkB q))∧Zor a b c d ps=0∧Zi2 a b c d ps=Zge c d N (Zag (Za1 a ps)) (Zah 0 (Za1 a ps)) K∧1≤b∧b≤8∧0≤c∧c≤b-1:=by
 obtain⟨q1,q2,q3,q4⟩:=Zin h1
 obtain⟨N,K,rfl,hB,_,hK1,_⟩:=Zmq ⟨q1,q2⟩ hf
 have hpk:Zkq N b c d ps=0:=by
  rw[Zkq,ZGE,ZIO,if_pos h1,Zjw q3 q4,if_pos h2,decide_eq_true h3,ZdN,if_pos rfl,h4]
 have e3:Zor N b c d ps=0:=by rw[Zor,if_pos hpk,if_neg (by omega)]
 have hc:0≤c∧c≤b-1:=by
  unfold Zbn at h2
  split at h2
  ·assumption
  ·cases h2
 refine⟨N,K,rfl,by omega,by omega,hK1,hB,Zqx ⟨q1,q2⟩ (Zuu h4),e3,?_,q3,q4,hc⟩
 rw[Zi2,if_pos e3,ZAk,hK1]
 rfl
end Go.Proofs.Ytjhdnpmojhkbjaa
/- Paths of functions, printed by the explorer (Gx). No condition. -/
namespace Go.Proofs.Ytjhdnpmojhkbjaa
set_option maxRecDepth 100000
set_option linter.unusedVariables false
def ZFE(a:Int)(b:Int)(c:Int)(d:Int)(ps:List AV)(L:List AV)(ss:List Int):AFrame:={ fn:=10,N:=256,env:=[(0,AV.agg (Row.gen [AV.int .i64 a,AV.int .i64 b])),(1,AV.agg (Row.gen [AV.int .i64 c,AV.int .i64 d,AV.list (Row.big (Sh.agg [Sh.int .i64,Sh.int .i64,Sh.ints .i64]) ps),AV.list (Row.big Sh.bool L)])),(2,AV.list (.ints .i64 ss))],todo:=[.code a10.code],defs:=[],rnd:=none,ret:=false,res:=[ARes.tmp 6] }
def Zs5(a:Int)(b:Int)(c:Int)(d:Int)(ps:List AV)(L:List AV)(ss:List Int):List AFrame:=[(ZFE a b c d ps L ss)]
theorem ZxV(a:Int)(b:Int)(c:Int)(d:Int)(ps:List AV)(L:List AV)(ss:List Int):Zak tab 10 [AV.agg (Row.gen [AV.int .i64 a,AV.int .i64 b]),AV.agg (Row.gen [AV.int .i64 c,AV.int .i64 d,AV.list (Row.big (Sh.agg [Sh.int .i64,Sh.int .i64,Sh.ints .i64]) ps),AV.list (Row.big Sh.bool L)]),AV.list (.ints .i64 ss)]=some (ZFE a b c d ps L ss):=rfl
def ZcS(a b c d:Int)(ps L:List AV)(ss:List Int)(x0 x1:List AV)(n2:Int):List AFrame:=[{ fn:=10,N:=256,env:=[(2,AV.list (.ints .i64 ss)),(3,AV.ptr 10004 0 0 0),(4,AV.ptr 10005 0 0 0),(7,AV.list (Row.big (Sh.agg [Sh.int .i64,Sh.int .i64,Sh.int .i64,Sh.ints .i64]) x0)),(9,AV.row 10103 0),(10,AV.int .i64 n2)],todo:=.code (ACode.gh [] Zyi)::ZFQ,defs:=[],rnd:=none,ret:=false,res:=[ARes.tmp 6] }]
def Zb0(a:Int)(b:Int)(c:Int)(d:Int)(ps:List AV)(L:List AV)(ss:List Int)(x0:List AV)(x1:List AV)(n2:Int):Zaa:=[(10004,{ base:=0,blks:=[Blk.row 23 2 (Row.gen [AV.agg (Row.gen [AV.int .i64 a,AV.int .i64 b])])] }),(10005,{ base:=0,blks:=[Blk.row 72 4 (Row.gen [AV.agg (Row.gen [AV.int .i64 c,AV.int .i64 d,AV.list (Row.big (Sh.agg [Sh.int .i64,Sh.int .i64,Sh.ints .i64]) ps),AV.list (Row.big Sh.bool L)])])] }),(10103,{ base:=0,blks:=[Blk.row 74 4 (Row.big (Sh.agg [Sh.int .i64,Sh.int .i64,Sh.int .i64,Sh.ints .i64]) x1)] })]
abbrev ZjA(a:Int)(b:Int)(c:Int)(d:Int)(ps:List AV)(L:List AV)(ss:List Int)(x0:List AV)(x1:List AV)(n2:Int):List AFrame×Zaa:=(ZcS a b c d ps L ss x0 x1 n2,Zb0 a b c d ps L ss x0 x1 n2)
def ZdM(a b c d:Int)(ps L:List AV)(ss:List Int)(x0 x1:List AV):List AFrame:=[{ fn:=10,N:=256,env:=[(2,AV.list (.ints .i64 ss)),(3,AV.ptr 10004 0 0 0),(4,AV.ptr 10005 0 0 0),(7,AV.list (Row.big (Sh.agg [Sh.int .i64,Sh.int .i64,Sh.int .i64,Sh.ints .i64]) x0)),(9,AV.row 10103 0),(12,AV.nils),(13,AV.int .i64 0)],todo:=.code (ACode.gh [] Zqo)::Ztk,defs:=[],rnd:=none,ret:=false,res:=[ARes.tmp 6] }]
def ZcG(a:Int)(b:Int)(c:Int)(d:Int)(ps:List AV)(L:List AV)(ss:List Int)(x0:List AV)(x1:List AV):Zaa:=[(10004,{ base:=0,blks:=[Blk.row 23 2 (Row.gen [AV.agg (Row.gen [AV.int .i64 a,AV.int .i64 b])])] }),(10005,{ base:=0,blks:=[Blk.row 72 4 (Row.gen [AV.agg (Row.gen [AV.int .i64 c,AV.int .i64 d,AV.list (Row.big (Sh.agg [Sh.int .i64,Sh.int .i64,Sh.ints .i64]) ps),AV.list (Row.big Sh.bool L)])])] }),(10103,{ base:=0,blks:=[Blk.row 74 4 (Row.big (Sh.agg [Sh.int .i64,Sh.int .i64,Sh.int .i64,Sh.ints .i64]) x1)] })]
abbrev Zjs(a:Int)(b:Int)(c:Int)(d:Int)(ps:List AV)(L:List AV)(ss:List Int)(x0:List AV)(x1:List AV):List AFrame×Zaa:=(ZdM a b c d ps L ss x0 x1,ZcG a b c d ps L ss x0 x1)
def Zck(a b c d:Int)(ps L:List AV)(ss:List Int)(x0 x1:List AV)(n3:Int)(x4:List AV):List AFrame:=[{ fn:=10,N:=256,env:=[(2,AV.list (.ints .i64 ss)),(3,AV.ptr 10004 0 0 0),(4,AV.ptr 10005 0 0 0),(7,AV.list (Row.big (Sh.agg [Sh.int .i64,Sh.int .i64,Sh.int .i64,Sh.ints .i64]) x0)),(9,AV.row 10103 0),(12,AV.row 10185 0),(13,AV.int .i64 n3)],todo:=.code (ACode.gh [] Zqo)::Ztk,defs:=[],rnd:=none,ret:=false,res:=[ARes.tmp 6] }]
def ZbO(a:Int)(b:Int)(c:Int)(d:Int)(ps:List AV)(L:List AV)(ss:List Int)(x0:List AV)(x1:List AV)(n3:Int)(x4:List AV):Zaa:=[(10004,{ base:=0,blks:=[Blk.row 23 2 (Row.gen [AV.agg (Row.gen [AV.int .i64 a,AV.int .i64 b])])] }),(10005,{ base:=0,blks:=[Blk.row 72 4 (Row.gen [AV.agg (Row.gen [AV.int .i64 c,AV.int .i64 d,AV.list (Row.big (Sh.agg [Sh.int .i64,Sh.int .i64,Sh.ints .i64]) ps),AV.list (Row.big Sh.bool L)])])] }),(10103,{ base:=0,blks:=[Blk.row 74 4 (Row.big (Sh.agg [Sh.int .i64,Sh.int .i64,Sh.int .i64,Sh.ints .i64]) x1)] }),(10185,{ base:=0,blks:=[Blk.row 74 4 (Row.big (Sh.agg [Sh.int .i64,Sh.int .i64,Sh.int .i64,Sh.ints .i64]) x4)] })]
abbrev Zgm(a:Int)(b:Int)(c:Int)(d:Int)(ps:List AV)(L:List AV)(ss:List Int)(x0:List AV)(x1:List AV)(n3:Int)(x4:List AV):List AFrame×Zaa:=(Zck a b c d ps L ss x0 x1 n3 x4,ZbO a b c d ps L ss x0 x1 n3 x4)
def Zcj(a b c d:Int)(ps L:List AV)(ss:List Int)(x0 x1:List AV)(n5:Int)(x6:List AV):List AFrame:=[{ fn:=10,N:=256,env:=[(2,AV.list (.ints .i64 ss)),(3,AV.ptr 10004 0 0 0),(4,AV.ptr 10005 0 0 0),(7,AV.list (Row.big (Sh.agg [Sh.int .i64,Sh.int .i64,Sh.int .i64,Sh.ints .i64]) x0)),(9,AV.row 10103 0),(12,AV.row 10152 0),(13,AV.int .i64 n5)],todo:=.code (ACode.gh [] Zqo)::Ztk,defs:=[],rnd:=none,ret:=false,res:=[ARes.tmp 6] }]
def ZbP(a:Int)(b:Int)(c:Int)(d:Int)(ps:List AV)(L:List AV)(ss:List Int)(x0:List AV)(x1:List AV)(n5:Int)(x6:List AV):Zaa:=[(10004,{ base:=0,blks:=[Blk.row 23 2 (Row.gen [AV.agg (Row.gen [AV.int .i64 a,AV.int .i64 b])])] }),(10005,{ base:=0,blks:=[Blk.row 72 4 (Row.gen [AV.agg (Row.gen [AV.int .i64 c,AV.int .i64 d,AV.list (Row.big (Sh.agg [Sh.int .i64,Sh.int .i64,Sh.ints .i64]) ps),AV.list (Row.big Sh.bool L)])])] }),(10103,{ base:=0,blks:=[Blk.row 74 4 (Row.big (Sh.agg [Sh.int .i64,Sh.int .i64,Sh.int .i64,Sh.ints .i64]) x1)] }),(10152,{ base:=0,blks:=[Blk.row 74 4 (Row.big (Sh.agg [Sh.int .i64,Sh.int .i64,Sh.int .i64,Sh.ints .i64]) x6)] })]
abbrev ZcM(a:Int)(b:Int)(c:Int)(d:Int)(ps:List AV)(L:List AV)(ss:List Int)(x0:List AV)(x1:List AV)(n5:Int)(x6:List AV):List AFrame×Zaa:=(Zcj a b c d ps L ss x0 x1 n5 x6,ZbP a b c d ps L ss x0 x1 n5 x6)
theorem ZLG(A:Ar)(a b c d:Int)(ps L:List AV)(ss:List Int):Zaz A tab BWa 78 [false,true,true,true,true,true,true,true,true,true,true,true,true,true,true,true,true,true,true,true,true,true,true,true,true,true,true,true,true,true,true,true,true,true,true,true,true,true,true,true,true,true,true] 10 (Zs5 a b c d ps L ss) []=
 some (tr [91,5,5] [A.lt 12 (A.int (A.lenA ps)),!A.not true],
  AV.bool true,none):=by kernel_rfl
theorem ZLZ(A:Ar)(a b c d:Int)(ps L:List AV)(ss:List Int):Zaz A tab BWa 78 [false,false,false,false,false,true,true,true,true,true,true,true,true,true,true,true,true,true,true,true,true,true,true,true,true,true,true,true,true,true,true,true,true,true,true,true,true,true,true,true,true,true,true] 10 (Zs5 a b c d ps L ss) []=
 some (tr [82,8,5,5] [A.lt 16 (A.int (A.len ss)),!A.lt 12 (A.int (A.lenA ps)),!A.not true],
  AV.bool true,none):=by kernel_rfl
theorem ZJ8(A:Ar)(a b c d:Int)(ps L:List AV)(ss:List Int):Zaz A tab BWa 78 [false,false,false,false,false,false,false,false,false,false,true,true,true,true,true,true,true,true,true,true,true,true,true,true,true,true,true,true,true,true,true,true,true,true,true,true,true,true,true,true,true,true,true] 10 (Zs5 a b c d ps L ss) []=
 some (tr [71,10,8,5,5] [A.not (ZbW ps),!A.lt 16 (A.int (A.len ss)),!A.lt 12 (A.int (A.lenA ps)),!A.not true],
  AV.bool true,none):=by kernel_rfl
theorem ZM6(A:Ar)(a b c d:Int)(ps L:List AV)(ss:List Int):Zaz A tab BWa 78 [false,false,false,false,false,false,false,false,false,false,false,false,false,false,true,true,true,true,true,true,true,true,true,true,true,true,true,true,true,true,true,true,true,true,true,true,true,true,true,true,true,true,true] 10 (Zs5 a b c d ps L ss) []=
 some (tr [62,8,10,8,5,5] [A.not (A.eq (Zat a b) 0),!A.not (ZbW ps),!A.lt 16 (A.int (A.len ss)),!A.lt 12 (A.int (A.lenA ps)),!A.not true],
  AV.bool true,none):=by kernel_rfl
theorem ZMk(A:Ar)(a b c d:Int)(ps L:List AV)(ss:List Int):Zaz A tab BWa 78 [false,false,false,false,false,false,false,false,false,false,false,false,false,false,false,false,false,false,true,true,true,true,true,true,true,true,true,true,true,true,true,true,true,true,true,true,true,true,true,true,true,true,true] 10 (Zs5 a b c d ps L ss) []=
 some (tr [53,8,8,10,8,5,5] [A.lt b 2,!A.not (A.eq (Zat a b) 0),!A.not (ZbW ps),!A.lt 16 (A.int (A.len ss)),!A.lt 12 (A.int (A.lenA ps)),!A.not true],
  AV.bool true,none):=by kernel_rfl
theorem ZMs(A:Ar)(a b c d:Int)(ps L:List AV)(ss:List Int):Zaz A tab BWa 78 [false,false,false,false,false,false,false,false,false,false,false,false,false,false,false,false,false,false,false,false,false,false,false,false,false,true,true,true,true,true,true,true,true,true,true,true,true,true,true,true,true,true,true] 10 (Zs5 a b c d ps L ss) []=
 some (tr [38,5,8,8,8,10,8,5,5] [A.not (A.eq (Zbn b c) 0),decide (-1000000≤b∧b≤1000000),!A.lt b 2,!A.not (A.eq (Zat a b) 0),!A.not (ZbW ps),!A.lt 16 (A.int (A.len ss)),!A.lt 12 (A.int (A.lenA ps)),!A.not true],
  AV.bool true,none):=by kernel_rfl
theorem ZLP(A:Ar)(a b c d:Int)(ps L:List AV)(ss:List Int):Zaz A tab BWa 78 [false,false,false,false,false,false,false,false,false,false,false,false,false,false,false,false,false,false,false,false,false,false,false,false,false,false,false,false,false,false,false,true,true,true,true,true,true,true,true,true,true,true,true] 10 (Zs5 a b c d ps L ss) []=
 some (tr [25,12,5,8,8,8,10,8,5,5] [A.not (decide (0≤d∧d≤63)),!A.not (A.eq (Zbn b c) 0),decide (-1000000≤b∧b≤1000000),!A.lt b 2,!A.not (A.eq (Zat a b) 0),!A.not (ZbW ps),!A.lt 16 (A.int (A.len ss)),!A.lt 12 (A.int (A.lenA ps)),!A.not true],
  AV.bool true,none):=by kernel_rfl
theorem ZLx(A:Ar)(a b c d:Int)(ps L:List AV)(ss:List Int):Zaz A tab BWa 78 [false,false,false,false,false,false,false,false,false,false,false,false,false,false,false,false,false,false,false,false,false,false,false,false,false,false,false,false,false,false,false,false,false,false,false,false,true,true,true,true,true,true,true] 10 (Zs5 a b c d ps L ss) []=
 some (tr [14,5,4,12,5,8,8,8,10,8,5,5] [A.not (A.eq (ZbV ps) 0),decide (ZbW ps=true),!A.not (decide (0≤d∧d≤63)),!A.not (A.eq (Zbn b c) 0),decide (-1000000≤b∧b≤1000000),!A.lt b 2,!A.not (A.eq (Zat a b) 0),!A.not (ZbW ps),!A.lt 16 (A.int (A.len ss)),!A.lt 12 (A.int (A.lenA ps)),!A.not true],
  AV.bool true,none):=by kernel_rfl
theorem ZMr(A:Ar)(a b c d:Int)(ps L:List AV)(ss:List Int):Zaz A tab BWa 78 [false,false,false,false,false,false,false,false,false,false,false,false,false,false,false,false,false,false,false,false,false,false,false,false,false,false,false,false,false,false,false,false,false,false,false,false,false,false,false,false,false,false,true] 10 (Zs5 a b c d ps L ss) []=
 some (tr [2,4,6,5,4,12,5,8,8,8,10,8,5,5] [A.lt 16 (ZbG a ps),decide ((4≤a∧a≤24)∧ZbW ps=true),!A.not (A.eq (ZbV ps) 0),decide (ZbW ps=true),!A.not (decide (0≤d∧d≤63)),!A.not (A.eq (Zbn b c) 0),decide (-1000000≤b∧b≤1000000),!A.lt b 2,!A.not (A.eq (Zat a b) 0),!A.not (ZbW ps),!A.lt 16 (A.int (A.len ss)),!A.lt 12 (A.int (A.lenA ps)),!A.not true],
  AV.bool true,none):=by kernel_rfl
theorem ZME(A:Ar)(a b c d:Int)(ps L:List AV)(ss:List Int):Zad A tab BWa 111 [false,false,false,false,false,false,false,false,false,false,false,false,false,false,false,false,false,false,false,false,false,false,false,false,false,false,false,false,false,false,false,false,false,false,false,false,false,false,false,false,false,false,false,false,false,false,false,false,false,false,false,false,false,true] (Zs5 a b c d ps L ss) []=
 some (tr [2,1,4,4,8,8,0,5,4,6,5,4,12,5,8,8,8,10,8,5,5] [neB (Zi2 a b c d ps),!A.not (A.eq (Zqc a b (Zi2 a b c d ps)) 0),decide (Zy2 a b (Zi2 a b c d ps)=true),!A.lt 16 (A.int (A.lenA (Zi2 a b c d ps))),!A.not (A.eq (Zor a b c d ps) 0),decide (ZbW ps=true),decide (ZbW ps=true),!A.lt 16 (ZbG a ps),decide ((4≤a∧a≤24)∧ZbW ps=true),!A.not (A.eq (ZbV ps) 0),decide (ZbW ps=true),!A.not (decide (0≤d∧d≤63)),!A.not (A.eq (Zbn b c) 0),decide (-1000000≤b∧b≤1000000),!A.lt b 2,!A.not (A.eq (Zat a b) 0),!A.not (ZbW ps),!A.lt 16 (A.int (A.len ss)),!A.lt 12 (A.int (A.lenA ps)),!A.not true],
  ZjA (a) (b) (c) (d) (ps) (L) (ss) (Zi2 a b c d ps) (List.map Zdw (Zi2 a b c d ps)) (0)):=by kernel_rfl
theorem ZJd(A:Ar)(a b c d:Int)(ps L:List AV)(ss:List Int)(x0 x1:List AV)(n2:Int):Zad A tab BWa 42 [true,true,true,true,true] (ZcS a b c d ps L ss x0 x1 n2) (Zb0 a b c d ps L ss x0 x1 n2)=
 some (tr [1,1,0,0,0,0,0,2,0,0,2,5,0,0,3,2,7,5] [A.inR .i64 (A.add n2 1),Zab (Nat.blt (A.nat (A.add (A.add 1 (ZaL (A.nth ss (A.nat n2)) (A.sub (A.int (A.lenA x1)) 2))) 1)) (A.lenA (A.setA x1 (A.nat (A.add 1 (ZaL (A.nth ss (A.nat n2)) (A.sub (A.int (A.lenA x1)) 2)))) (AV.agg (Row.gen [.int .i64 ((A.nthA x1 (A.nat (A.add (A.add 1 (ZaL (A.nth ss (A.nat n2)) (A.sub (A.int (A.lenA x1)) 2))) 1))).cellAt 0).toI, .int .i64 ((A.nthA x1 (A.nat (A.add (A.add 1 (ZaL (A.nth ss (A.nat n2)) (A.sub (A.int (A.lenA x1)) 2))) 1))).cellAt 1).toI, .int .i64 ((A.nthA x1 (A.nat (A.add (A.add 1 (ZaL (A.nth ss (A.nat n2)) (A.sub (A.int (A.lenA x1)) 2))) 1))).cellAt 2).toI, .list (.ints .i64 ((A.nthA x1 (A.nat (A.add (A.add 1 (ZaL (A.nth ss (A.nat n2)) (A.sub (A.int (A.lenA x1)) 2))) 1))).cellAt 3).toIs)]))))) true,Zab (A.le 0 (A.add (A.add 1 (ZaL (A.nth ss (A.nat n2)) (A.sub (A.int (A.lenA x1)) 2))) 1)) (Nat.blt (A.nat (A.add (A.add 1 (ZaL (A.nth ss (A.nat n2)) (A.sub (A.int (A.lenA x1)) 2))) 1)) (A.lenA (A.setA x1 (A.nat (A.add 1 (ZaL (A.nth ss (A.nat n2)) (A.sub (A.int (A.lenA x1)) 2)))) (AV.agg (Row.gen [.int .i64 ((A.nthA x1 (A.nat (A.add (A.add 1 (ZaL (A.nth ss (A.nat n2)) (A.sub (A.int (A.lenA x1)) 2))) 1))).cellAt 0).toI, .int .i64 ((A.nthA x1 (A.nat (A.add (A.add 1 (ZaL (A.nth ss (A.nat n2)) (A.sub (A.int (A.lenA x1)) 2))) 1))).cellAt 1).toI, .int .i64 ((A.nthA x1 (A.nat (A.add (A.add 1 (ZaL (A.nth ss (A.nat n2)) (A.sub (A.int (A.lenA x1)) 2))) 1))).cellAt 2).toI, .list (.ints .i64 ((A.nthA x1 (A.nat (A.add (A.add 1 (ZaL (A.nth ss (A.nat n2)) (A.sub (A.int (A.lenA x1)) 2))) 1))).cellAt 3).toIs)]))))),Zab (Nat.blt (A.nat (A.add 1 (ZaL (A.nth ss (A.nat n2)) (A.sub (A.int (A.lenA x1)) 2)))) (A.lenA x1)) true,Zab (A.le 0 (A.add 1 (ZaL (A.nth ss (A.nat n2)) (A.sub (A.int (A.lenA x1)) 2)))) (Nat.blt (A.nat (A.add 1 (ZaL (A.nth ss (A.nat n2)) (A.sub (A.int (A.lenA x1)) 2)))) (A.lenA x1)),Zab (Nat.blt (A.nat (A.add 1 (ZaL (A.nth ss (A.nat n2)) (A.sub (A.int (A.lenA x1)) 2)))) (A.lenA x1)) true,Zab (A.le 0 (A.add 1 (ZaL (A.nth ss (A.nat n2)) (A.sub (A.int (A.lenA x1)) 2)))) (Nat.blt (A.nat (A.add 1 (ZaL (A.nth ss (A.nat n2)) (A.sub (A.int (A.lenA x1)) 2)))) (A.lenA x1)),Zab (Nat.blt (A.nat (A.add (A.add 1 (ZaL (A.nth ss (A.nat n2)) (A.sub (A.int (A.lenA x1)) 2))) 1)) (A.lenA x1)) true,Zab (A.le 0 (A.add (A.add 1 (ZaL (A.nth ss (A.nat n2)) (A.sub (A.int (A.lenA x1)) 2))) 1)) (Nat.blt (A.nat (A.add (A.add 1 (ZaL (A.nth ss (A.nat n2)) (A.sub (A.int (A.lenA x1)) 2))) 1)) (A.lenA x1)),A.inR .i64 (A.add (A.add 1 (ZaL (A.nth ss (A.nat n2)) (A.sub (A.int (A.lenA x1)) 2))) 1),A.inR .i64 (A.add (A.add 1 (ZaL (A.nth ss (A.nat n2)) (A.sub (A.int (A.lenA x1)) 2))) 1),A.inR .i64 (A.add 1 (ZaL (A.nth ss (A.nat n2)) (A.sub (A.int (A.lenA x1)) 2))),decide (1≤A.sub (A.int (A.lenA x1)) 2∧A.sub (A.int (A.lenA x1)) 2≤1000000000000),A.inR .i64 (A.sub (A.int (A.lenA x1)) 2),Zab (Zab (A.le 0 n2) (Nat.blt (A.nat n2) (A.len ss))) true,A.lt 2 (A.int (A.lenA x1)),A.lt n2 (A.int (A.len ss))],
  ZjA (a) (b) (c) (d) (ps) (L) (ss) (x0) (A.setA (A.setA x1 (A.nat (A.add 1 (ZaL (A.nth ss (A.nat n2)) (A.sub (A.int (A.lenA x1)) 2)))) (AV.agg (Row.gen [.int .i64 ((A.nthA x1 (A.nat (A.add (A.add 1 (ZaL (A.nth ss (A.nat n2)) (A.sub (A.int (A.lenA x1)) 2))) 1))).cellAt 0).toI, .int .i64 ((A.nthA x1 (A.nat (A.add (A.add 1 (ZaL (A.nth ss (A.nat n2)) (A.sub (A.int (A.lenA x1)) 2))) 1))).cellAt 1).toI, .int .i64 ((A.nthA x1 (A.nat (A.add (A.add 1 (ZaL (A.nth ss (A.nat n2)) (A.sub (A.int (A.lenA x1)) 2))) 1))).cellAt 2).toI, .list (.ints .i64 ((A.nthA x1 (A.nat (A.add (A.add 1 (ZaL (A.nth ss (A.nat n2)) (A.sub (A.int (A.lenA x1)) 2))) 1))).cellAt 3).toIs)]))) (A.nat (A.add (A.add 1 (ZaL (A.nth ss (A.nat n2)) (A.sub (A.int (A.lenA x1)) 2))) 1)) (AV.agg (Row.gen [.int .i64 ((A.nthA x1 (A.nat (A.add 1 (ZaL (A.nth ss (A.nat n2)) (A.sub (A.int (A.lenA x1)) 2))))).cellAt 0).toI, .int .i64 ((A.nthA x1 (A.nat (A.add 1 (ZaL (A.nth ss (A.nat n2)) (A.sub (A.int (A.lenA x1)) 2))))).cellAt 1).toI, .int .i64 ((A.nthA x1 (A.nat (A.add 1 (ZaL (A.nth ss (A.nat n2)) (A.sub (A.int (A.lenA x1)) 2))))).cellAt 2).toI, .list (.ints .i64 ((A.nthA x1 (A.nat (A.add 1 (ZaL (A.nth ss (A.nat n2)) (A.sub (A.int (A.lenA x1)) 2))))).cellAt 3).toIs)]))) (A.add n2 1)):=by kernel_rfl
theorem ZI0(A:Ar)(a b c d:Int)(ps L:List AV)(ss:List Int)(x0 x1:List AV)(n2:Int):Zad A tab BWa 29 [true,true,true,true,false] (ZcS a b c d ps L ss x0 x1 n2) (Zb0 a b c d ps L ss x0 x1 n2)=
 some (tr [2,7,5] [!A.lt 2 (A.int (A.lenA x1)),A.lt n2 (A.int (A.len ss))],
  Zjs (a) (b) (c) (d) (ps) (L) (ss) (x0) (x1)):=by kernel_rfl
theorem ZI6(A:Ar)(a b c d:Int)(ps L:List AV)(ss:List Int)(x0 x1:List AV)(n2:Int):Zad A tab BWa 29 [false,false,false,false,false] (ZcS a b c d ps L ss x0 x1 n2) (Zb0 a b c d ps L ss x0 x1 n2)=
 some (tr [10,5] [!A.lt n2 (A.int (A.len ss))],
  Zjs (a) (b) (c) (d) (ps) (L) (ss) (x0) (x1)):=by kernel_rfl
theorem ZDY(A:Ar)(a b c d:Int)(ps L:List AV)(ss:List Int)(x0 x1:List AV):Zad A tab BWa 73 [true,true,true,true,true,true,true,true,true] (ZdM a b c d ps L ss x0 x1) (ZcG a b c d ps L ss x0 x1)=
 some (tr [1,2,0,0,0,0,6,2,4,0,0,2,8,4,6,0,0,0,3,4] [A.inR .i64 (A.add 0 1),Nat.ble (A.lenA [AV.agg (Row.gen [.int .i64 ((A.nthA x1 (A.nat 0)).cellAt 0).toI, .int .i64 ((A.nthA x1 (A.nat 0)).cellAt 1).toI, .int .i64 ((A.nthA x1 (A.nat 0)).cellAt 2).toI, .list (.ints .i64 ((A.nthA x1 (A.nat 0)).cellAt 3).toIs)])]+A.lenA [AV.agg (Row.gen [.int .i64 (ZaL (A.add ((A.nthA x1 (A.nat 0)).cellAt 0).toI 1) b), .int .i64 ((A.nthA x1 (A.nat 0)).cellAt 1).toI, .int .i64 ((A.nthA x1 (A.nat 0)).cellAt 2).toI, .list (.ints .i64 ((A.nthA x1 (A.nat 0)).cellAt 3).toIs)]),AV.agg (Row.gen [.int .i64 ((A.nthA x1 (A.nat 0)).cellAt 0).toI, .int .i64 ((A.nthA x1 (A.nat 0)).cellAt 1).toI, .int .i64 ((A.nthA x1 (A.nat 0)).cellAt 2).toI, .list (.ints .i64 ((A.nthA x1 (A.nat 0)).cellAt 3).toIs)])]) 4294967296,List.all [AV.agg (Row.gen [.int .i64 (ZaL (A.add ((A.nthA x1 (A.nat 0)).cellAt 0).toI 1) b), .int .i64 ((A.nthA x1 (A.nat 0)).cellAt 1).toI, .int .i64 ((A.nthA x1 (A.nat 0)).cellAt 2).toI, .list (.ints .i64 ((A.nthA x1 (A.nat 0)).cellAt 3).toIs)]),AV.agg (Row.gen [.int .i64 ((A.nthA x1 (A.nat 0)).cellAt 0).toI, .int .i64 ((A.nthA x1 (A.nat 0)).cellAt 1).toI, .int .i64 ((A.nthA x1 (A.nat 0)).cellAt 2).toI, .list (.ints .i64 ((A.nthA x1 (A.nat 0)).cellAt 3).toIs)])] fun x=>AV.bx x&&Nat.beq (Zac A x) 4,decide (List.length ((A.nthA x1 (A.nat 0)).cellAt 3).toIs≤4294967296),Zab (Nat.blt (A.nat 0) (A.lenA x1)) true,Zab (A.le 0 0) (Nat.blt (A.nat 0) (A.lenA x1)),decide (1≤b∧b≤1000000000000),A.inR .i64 (A.add ((A.nthA x1 (A.nat 0)).cellAt 0).toI 1),decide (List.length ((A.nthA x1 (A.nat 0)).cellAt 3).toIs≤4294967296),Zab (Nat.blt (A.nat 0) (A.lenA x1)) true,Zab (A.le 0 0) (Nat.blt (A.nat 0) (A.lenA x1)),A.eq (ZaL (A.nth ss (A.nat 0)) 3) 0,Zab (Zab (A.le 0 0) (Nat.blt (A.nat 0) (A.len ss))) true,A.lt 0 (A.int (A.len ss)),Zab (Nat.ble (A.lenA [AV.agg (Row.gen [.int .i64 ((A.nthA x1 (A.nat 0)).cellAt 0).toI, .int .i64 ((A.nthA x1 (A.nat 0)).cellAt 1).toI, .int .i64 ((A.nthA x1 (A.nat 0)).cellAt 2).toI, .list (.ints .i64 ((A.nthA x1 (A.nat 0)).cellAt 3).toIs)])]) 4294967296) (Nat.blt 0 (A.lenA [AV.agg (Row.gen [.int .i64 ((A.nthA x1 (A.nat 0)).cellAt 0).toI, .int .i64 ((A.nthA x1 (A.nat 0)).cellAt 1).toI, .int .i64 ((A.nthA x1 (A.nat 0)).cellAt 2).toI, .list (.ints .i64 ((A.nthA x1 (A.nat 0)).cellAt 3).toIs)])])),List.all [AV.agg (Row.gen [.int .i64 ((A.nthA x1 (A.nat 0)).cellAt 0).toI, .int .i64 ((A.nthA x1 (A.nat 0)).cellAt 1).toI, .int .i64 ((A.nthA x1 (A.nat 0)).cellAt 2).toI, .list (.ints .i64 ((A.nthA x1 (A.nat 0)).cellAt 3).toIs)])] fun x=>AV.bx x&&Nat.beq (Zac A x) 4,Zab (Nat.blt (A.nat 0) (A.lenA x1)) true,Zab (A.le 0 0) (Nat.blt (A.nat 0) (A.lenA x1)),A.lt 0 (A.int (A.lenA x1))],
  Zgm (a) (b) (c) (d) (ps) (L) (ss) (x0) (x1) (A.add 0 1) (A.appA [AV.agg (Row.gen [.int .i64 ((A.nthA x1 (A.nat 0)).cellAt 0).toI, .int .i64 ((A.nthA x1 (A.nat 0)).cellAt 1).toI, .int .i64 ((A.nthA x1 (A.nat 0)).cellAt 2).toI, .list (.ints .i64 ((A.nthA x1 (A.nat 0)).cellAt 3).toIs)])] [AV.agg (Row.gen [.int .i64 (ZaL (A.add ((A.nthA x1 (A.nat 0)).cellAt 0).toI 1) b), .int .i64 ((A.nthA x1 (A.nat 0)).cellAt 1).toI, .int .i64 ((A.nthA x1 (A.nat 0)).cellAt 2).toI, .list (.ints .i64 ((A.nthA x1 (A.nat 0)).cellAt 3).toIs)]),AV.agg (Row.gen [.int .i64 ((A.nthA x1 (A.nat 0)).cellAt 0).toI, .int .i64 ((A.nthA x1 (A.nat 0)).cellAt 1).toI, .int .i64 ((A.nthA x1 (A.nat 0)).cellAt 2).toI, .list (.ints .i64 ((A.nthA x1 (A.nat 0)).cellAt 3).toIs)])])):=by kernel_rfl
theorem ZDW(A:Ar)(a b c d:Int)(ps L:List AV)(ss:List Int)(x0 x1:List AV):Zad A tab BWa 51 [true,true,true,true,true,true,true,true,false] (ZdM a b c d ps L ss x0 x1) (ZcG a b c d ps L ss x0 x1)=
 some (tr [1,1,8,4,6,0,0,0,3,4] [A.inR .i64 (A.add 0 1),!A.eq (ZaL (A.nth ss (A.nat 0)) 3) 0,Zab (Zab (A.le 0 0) (Nat.blt (A.nat 0) (A.len ss))) true,A.lt 0 (A.int (A.len ss)),Zab (Nat.ble (A.lenA [AV.agg (Row.gen [.int .i64 ((A.nthA x1 (A.nat 0)).cellAt 0).toI, .int .i64 ((A.nthA x1 (A.nat 0)).cellAt 1).toI, .int .i64 ((A.nthA x1 (A.nat 0)).cellAt 2).toI, .list (.ints .i64 ((A.nthA x1 (A.nat 0)).cellAt 3).toIs)])]) 4294967296) (Nat.blt 0 (A.lenA [AV.agg (Row.gen [.int .i64 ((A.nthA x1 (A.nat 0)).cellAt 0).toI, .int .i64 ((A.nthA x1 (A.nat 0)).cellAt 1).toI, .int .i64 ((A.nthA x1 (A.nat 0)).cellAt 2).toI, .list (.ints .i64 ((A.nthA x1 (A.nat 0)).cellAt 3).toIs)])])),List.all [AV.agg (Row.gen [.int .i64 ((A.nthA x1 (A.nat 0)).cellAt 0).toI, .int .i64 ((A.nthA x1 (A.nat 0)).cellAt 1).toI, .int .i64 ((A.nthA x1 (A.nat 0)).cellAt 2).toI, .list (.ints .i64 ((A.nthA x1 (A.nat 0)).cellAt 3).toIs)])] fun x=>AV.bx x&&Nat.beq (Zac A x) 4,Zab (Nat.blt (A.nat 0) (A.lenA x1)) true,Zab (A.le 0 0) (Nat.blt (A.nat 0) (A.lenA x1)),A.lt 0 (A.int (A.lenA x1))],
  ZcM (a) (b) (c) (d) (ps) (L) (ss) (x0) (x1) (A.add 0 1) ([AV.agg (Row.gen [.int .i64 ((A.nthA x1 (A.nat 0)).cellAt 0).toI, .int .i64 ((A.nthA x1 (A.nat 0)).cellAt 1).toI, .int .i64 ((A.nthA x1 (A.nat 0)).cellAt 2).toI, .list (.ints .i64 ((A.nthA x1 (A.nat 0)).cellAt 3).toIs)])])):=by kernel_rfl
theorem ZJi(A:Ar)(a b c d:Int)(ps L:List AV)(ss:List Int)(x0 x1:List AV):Zad A tab BWa 51 [true,false,false,false,false,false,false,false,false] (ZdM a b c d ps L ss x0 x1) (ZcG a b c d ps L ss x0 x1)=
 some (tr [1,15,6,0,0,0,3,4] [A.inR .i64 (A.add 0 1),!A.lt 0 (A.int (A.len ss)),Zab (Nat.ble (A.lenA [AV.agg (Row.gen [.int .i64 ((A.nthA x1 (A.nat 0)).cellAt 0).toI, .int .i64 ((A.nthA x1 (A.nat 0)).cellAt 1).toI, .int .i64 ((A.nthA x1 (A.nat 0)).cellAt 2).toI, .list (.ints .i64 ((A.nthA x1 (A.nat 0)).cellAt 3).toIs)])]) 4294967296) (Nat.blt 0 (A.lenA [AV.agg (Row.gen [.int .i64 ((A.nthA x1 (A.nat 0)).cellAt 0).toI, .int .i64 ((A.nthA x1 (A.nat 0)).cellAt 1).toI, .int .i64 ((A.nthA x1 (A.nat 0)).cellAt 2).toI, .list (.ints .i64 ((A.nthA x1 (A.nat 0)).cellAt 3).toIs)])])),List.all [AV.agg (Row.gen [.int .i64 ((A.nthA x1 (A.nat 0)).cellAt 0).toI, .int .i64 ((A.nthA x1 (A.nat 0)).cellAt 1).toI, .int .i64 ((A.nthA x1 (A.nat 0)).cellAt 2).toI, .list (.ints .i64 ((A.nthA x1 (A.nat 0)).cellAt 3).toIs)])] fun x=>AV.bx x&&Nat.beq (Zac A x) 4,Zab (Nat.blt (A.nat 0) (A.lenA x1)) true,Zab (A.le 0 0) (Nat.blt (A.nat 0) (A.lenA x1)),A.lt 0 (A.int (A.lenA x1))],
  ZcM (a) (b) (c) (d) (ps) (L) (ss) (x0) (x1) (A.add 0 1) ([AV.agg (Row.gen [.int .i64 ((A.nthA x1 (A.nat 0)).cellAt 0).toI, .int .i64 ((A.nthA x1 (A.nat 0)).cellAt 1).toI, .int .i64 ((A.nthA x1 (A.nat 0)).cellAt 2).toI, .list (.ints .i64 ((A.nthA x1 (A.nat 0)).cellAt 3).toIs)])])):=by kernel_rfl
theorem ZCy(A:Ar)(a b c d:Int)(ps L:List AV)(ss:List Int)(x0 x1:List AV)(n3:Int)(x4:List AV):Zad A tab BWa 73 [true,true,true,true,true,true,true,true,true] (Zck a b c d ps L ss x0 x1 n3 x4) (ZbO a b c d ps L ss x0 x1 n3 x4)=
 some (tr [1,2,0,0,0,0,6,2,4,0,0,2,8,4,6,0,0,0,3,4] [A.inR .i64 (A.add n3 1),Nat.ble (A.lenA (A.appA x4 [AV.agg (Row.gen [.int .i64 ((A.nthA x1 (A.nat n3)).cellAt 0).toI, .int .i64 ((A.nthA x1 (A.nat n3)).cellAt 1).toI, .int .i64 ((A.nthA x1 (A.nat n3)).cellAt 2).toI, .list (.ints .i64 ((A.nthA x1 (A.nat n3)).cellAt 3).toIs)])])+A.lenA [AV.agg (Row.gen [.int .i64 (ZaL (A.add ((A.nthA x1 (A.nat n3)).cellAt 0).toI 1) b), .int .i64 ((A.nthA x1 (A.nat n3)).cellAt 1).toI, .int .i64 ((A.nthA x1 (A.nat n3)).cellAt 2).toI, .list (.ints .i64 ((A.nthA x1 (A.nat n3)).cellAt 3).toIs)]),AV.agg (Row.gen [.int .i64 ((A.nthA x1 (A.nat n3)).cellAt 0).toI, .int .i64 ((A.nthA x1 (A.nat n3)).cellAt 1).toI, .int .i64 ((A.nthA x1 (A.nat n3)).cellAt 2).toI, .list (.ints .i64 ((A.nthA x1 (A.nat n3)).cellAt 3).toIs)])]) 4294967296,List.all [AV.agg (Row.gen [.int .i64 (ZaL (A.add ((A.nthA x1 (A.nat n3)).cellAt 0).toI 1) b), .int .i64 ((A.nthA x1 (A.nat n3)).cellAt 1).toI, .int .i64 ((A.nthA x1 (A.nat n3)).cellAt 2).toI, .list (.ints .i64 ((A.nthA x1 (A.nat n3)).cellAt 3).toIs)]),AV.agg (Row.gen [.int .i64 ((A.nthA x1 (A.nat n3)).cellAt 0).toI, .int .i64 ((A.nthA x1 (A.nat n3)).cellAt 1).toI, .int .i64 ((A.nthA x1 (A.nat n3)).cellAt 2).toI, .list (.ints .i64 ((A.nthA x1 (A.nat n3)).cellAt 3).toIs)])] fun x=>AV.bx x&&Nat.beq (Zac A x) 4,decide (List.length ((A.nthA x1 (A.nat n3)).cellAt 3).toIs≤4294967296),Zab (Nat.blt (A.nat n3) (A.lenA x1)) true,Zab (A.le 0 n3) (Nat.blt (A.nat n3) (A.lenA x1)),decide (1≤b∧b≤1000000000000),A.inR .i64 (A.add ((A.nthA x1 (A.nat n3)).cellAt 0).toI 1),decide (List.length ((A.nthA x1 (A.nat n3)).cellAt 3).toIs≤4294967296),Zab (Nat.blt (A.nat n3) (A.lenA x1)) true,Zab (A.le 0 n3) (Nat.blt (A.nat n3) (A.lenA x1)),A.eq (ZaL (A.nth ss (A.nat n3)) 3) 0,Zab (Zab (A.le 0 n3) (Nat.blt (A.nat n3) (A.len ss))) true,A.lt n3 (A.int (A.len ss)),Nat.ble (A.lenA x4+A.lenA [AV.agg (Row.gen [.int .i64 ((A.nthA x1 (A.nat n3)).cellAt 0).toI, .int .i64 ((A.nthA x1 (A.nat n3)).cellAt 1).toI, .int .i64 ((A.nthA x1 (A.nat n3)).cellAt 2).toI, .list (.ints .i64 ((A.nthA x1 (A.nat n3)).cellAt 3).toIs)])]) 4294967296,List.all [AV.agg (Row.gen [.int .i64 ((A.nthA x1 (A.nat n3)).cellAt 0).toI, .int .i64 ((A.nthA x1 (A.nat n3)).cellAt 1).toI, .int .i64 ((A.nthA x1 (A.nat n3)).cellAt 2).toI, .list (.ints .i64 ((A.nthA x1 (A.nat n3)).cellAt 3).toIs)])] fun x=>AV.bx x&&Nat.beq (Zac A x) 4,Zab (Nat.blt (A.nat n3) (A.lenA x1)) true,Zab (A.le 0 n3) (Nat.blt (A.nat n3) (A.lenA x1)),A.lt n3 (A.int (A.lenA x1))],
  Zgm (a) (b) (c) (d) (ps) (L) (ss) (x0) (x1) (A.add n3 1) (A.appA (A.appA x4 [AV.agg (Row.gen [.int .i64 ((A.nthA x1 (A.nat n3)).cellAt 0).toI, .int .i64 ((A.nthA x1 (A.nat n3)).cellAt 1).toI, .int .i64 ((A.nthA x1 (A.nat n3)).cellAt 2).toI, .list (.ints .i64 ((A.nthA x1 (A.nat n3)).cellAt 3).toIs)])]) [AV.agg (Row.gen [.int .i64 (ZaL (A.add ((A.nthA x1 (A.nat n3)).cellAt 0).toI 1) b), .int .i64 ((A.nthA x1 (A.nat n3)).cellAt 1).toI, .int .i64 ((A.nthA x1 (A.nat n3)).cellAt 2).toI, .list (.ints .i64 ((A.nthA x1 (A.nat n3)).cellAt 3).toIs)]),AV.agg (Row.gen [.int .i64 ((A.nthA x1 (A.nat n3)).cellAt 0).toI, .int .i64 ((A.nthA x1 (A.nat n3)).cellAt 1).toI, .int .i64 ((A.nthA x1 (A.nat n3)).cellAt 2).toI, .list (.ints .i64 ((A.nthA x1 (A.nat n3)).cellAt 3).toIs)])])):=by kernel_rfl
theorem ZHs(A:Ar)(a b c d:Int)(ps L:List AV)(ss:List Int)(x0 x1:List AV)(n3:Int)(x4:List AV):Zad A tab BWa 51 [true,true,true,true,true,true,true,true,false] (Zck a b c d ps L ss x0 x1 n3 x4) (ZbO a b c d ps L ss x0 x1 n3 x4)=
 some (tr [1,1,8,4,6,0,0,0,3,4] [A.inR .i64 (A.add n3 1),!A.eq (ZaL (A.nth ss (A.nat n3)) 3) 0,Zab (Zab (A.le 0 n3) (Nat.blt (A.nat n3) (A.len ss))) true,A.lt n3 (A.int (A.len ss)),Nat.ble (A.lenA x4+A.lenA [AV.agg (Row.gen [.int .i64 ((A.nthA x1 (A.nat n3)).cellAt 0).toI, .int .i64 ((A.nthA x1 (A.nat n3)).cellAt 1).toI, .int .i64 ((A.nthA x1 (A.nat n3)).cellAt 2).toI, .list (.ints .i64 ((A.nthA x1 (A.nat n3)).cellAt 3).toIs)])]) 4294967296,List.all [AV.agg (Row.gen [.int .i64 ((A.nthA x1 (A.nat n3)).cellAt 0).toI, .int .i64 ((A.nthA x1 (A.nat n3)).cellAt 1).toI, .int .i64 ((A.nthA x1 (A.nat n3)).cellAt 2).toI, .list (.ints .i64 ((A.nthA x1 (A.nat n3)).cellAt 3).toIs)])] fun x=>AV.bx x&&Nat.beq (Zac A x) 4,Zab (Nat.blt (A.nat n3) (A.lenA x1)) true,Zab (A.le 0 n3) (Nat.blt (A.nat n3) (A.lenA x1)),A.lt n3 (A.int (A.lenA x1))],
  ZcM (a) (b) (c) (d) (ps) (L) (ss) (x0) (x1) (A.add n3 1) (A.appA x4 [AV.agg (Row.gen [.int .i64 ((A.nthA x1 (A.nat n3)).cellAt 0).toI, .int .i64 ((A.nthA x1 (A.nat n3)).cellAt 1).toI, .int .i64 ((A.nthA x1 (A.nat n3)).cellAt 2).toI, .list (.ints .i64 ((A.nthA x1 (A.nat n3)).cellAt 3).toIs)])])):=by kernel_rfl
theorem ZFK(A:Ar)(a b c d:Int)(ps L:List AV)(ss:List Int)(x0 x1:List AV)(n3:Int)(x4:List AV):Zad A tab BWa 51 [true,false,false,false,false,false,false,false,false] (Zck a b c d ps L ss x0 x1 n3 x4) (ZbO a b c d ps L ss x0 x1 n3 x4)=
 some (tr [1,15,6,0,0,0,3,4] [A.inR .i64 (A.add n3 1),!A.lt n3 (A.int (A.len ss)),Nat.ble (A.lenA x4+A.lenA [AV.agg (Row.gen [.int .i64 ((A.nthA x1 (A.nat n3)).cellAt 0).toI, .int .i64 ((A.nthA x1 (A.nat n3)).cellAt 1).toI, .int .i64 ((A.nthA x1 (A.nat n3)).cellAt 2).toI, .list (.ints .i64 ((A.nthA x1 (A.nat n3)).cellAt 3).toIs)])]) 4294967296,List.all [AV.agg (Row.gen [.int .i64 ((A.nthA x1 (A.nat n3)).cellAt 0).toI, .int .i64 ((A.nthA x1 (A.nat n3)).cellAt 1).toI, .int .i64 ((A.nthA x1 (A.nat n3)).cellAt 2).toI, .list (.ints .i64 ((A.nthA x1 (A.nat n3)).cellAt 3).toIs)])] fun x=>AV.bx x&&Nat.beq (Zac A x) 4,Zab (Nat.blt (A.nat n3) (A.lenA x1)) true,Zab (A.le 0 n3) (Nat.blt (A.nat n3) (A.lenA x1)),A.lt n3 (A.int (A.lenA x1))],
  ZcM (a) (b) (c) (d) (ps) (L) (ss) (x0) (x1) (A.add n3 1) (A.appA x4 [AV.agg (Row.gen [.int .i64 ((A.nthA x1 (A.nat n3)).cellAt 0).toI, .int .i64 ((A.nthA x1 (A.nat n3)).cellAt 1).toI, .int .i64 ((A.nthA x1 (A.nat n3)).cellAt 2).toI, .list (.ints .i64 ((A.nthA x1 (A.nat n3)).cellAt 3).toIs)])])):=by kernel_rfl
theorem ZDp(A:Ar)(a b c d:Int)(ps L:List AV)(ss:List Int)(x0 x1:List AV)(n3:Int)(x4:List AV):Zaz A tab BWa 24 [false,true] 10 (Zck a b c d ps L ss x0 x1 n3 x4) (ZbO a b c d ps L ss x0 x1 n3 x4)=
 some (tr [2,3,4] [A.lt 40 (A.int (A.lenA x4)),!A.lt n3 (A.int (A.lenA x1))],
  AV.bool true,none):=by kernel_rfl
theorem ZHJ(A:Ar)(a b c d:Int)(ps L:List AV)(ss:List Int)(x0 x1:List AV)(n3:Int)(x4:List AV):Zaz A tab BWa 67 [false,false,false,false,false,false,true,true,true,true,true,true,true,true,true,true,true,true,true,true,true,true,true,true,true,true] 10 (Zck a b c d ps L ss x0 x1 n3 x4) (ZbO a b c d ps L ss x0 x1 n3 x4)=
 some (tr [4,4,6,6,6,3,4,6,8,0,10,0,10,0,10,0,5,3,4] [decide (Zw8 (ZkV a b c x4)=true),A.eq (ZaI a b c x4) 0,A.eq (Zid a b c x4) 0,A.eq (ZaI a b c x4) 0,decide (List.map pkT (exO a b c x0)=List.map pkT (exO a b c x4)),decide (ZrM (exO a b c x0)=true),A.eq (ZaI a b c x4) 0,A.eq (ZaI a b c x0) 0,decide (Zaw x4=true),Zaw x4,decide (Zaw x4=true),Zaw x4,decide (Zaw x4=true),Zaw x4,decide (Zaw x0=true),Zaw x0,!A.lt 40 (A.int (A.lenA x4)),!A.lt n3 (A.int (A.lenA x1))],
  AV.bool (decide (List.map frV (ZkV a b c x4)=List.map frV x0)),none):=by kernel_rfl
theorem ZCI(A:Ar)(a b c d:Int)(ps L:List AV)(ss:List Int)(x0 x1:List AV)(n5:Int)(x6:List AV):Zad A tab BWa 73 [true,true,true,true,true,true,true,true,true] (Zcj a b c d ps L ss x0 x1 n5 x6) (ZbP a b c d ps L ss x0 x1 n5 x6)=
 some (tr [1,2,0,0,0,0,6,2,4,0,0,2,8,4,6,0,0,0,3,4] [A.inR .i64 (A.add n5 1),Nat.ble (A.lenA (A.appA x6 [AV.agg (Row.gen [.int .i64 ((A.nthA x1 (A.nat n5)).cellAt 0).toI, .int .i64 ((A.nthA x1 (A.nat n5)).cellAt 1).toI, .int .i64 ((A.nthA x1 (A.nat n5)).cellAt 2).toI, .list (.ints .i64 ((A.nthA x1 (A.nat n5)).cellAt 3).toIs)])])+A.lenA [AV.agg (Row.gen [.int .i64 (ZaL (A.add ((A.nthA x1 (A.nat n5)).cellAt 0).toI 1) b), .int .i64 ((A.nthA x1 (A.nat n5)).cellAt 1).toI, .int .i64 ((A.nthA x1 (A.nat n5)).cellAt 2).toI, .list (.ints .i64 ((A.nthA x1 (A.nat n5)).cellAt 3).toIs)]),AV.agg (Row.gen [.int .i64 ((A.nthA x1 (A.nat n5)).cellAt 0).toI, .int .i64 ((A.nthA x1 (A.nat n5)).cellAt 1).toI, .int .i64 ((A.nthA x1 (A.nat n5)).cellAt 2).toI, .list (.ints .i64 ((A.nthA x1 (A.nat n5)).cellAt 3).toIs)])]) 4294967296,List.all [AV.agg (Row.gen [.int .i64 (ZaL (A.add ((A.nthA x1 (A.nat n5)).cellAt 0).toI 1) b), .int .i64 ((A.nthA x1 (A.nat n5)).cellAt 1).toI, .int .i64 ((A.nthA x1 (A.nat n5)).cellAt 2).toI, .list (.ints .i64 ((A.nthA x1 (A.nat n5)).cellAt 3).toIs)]),AV.agg (Row.gen [.int .i64 ((A.nthA x1 (A.nat n5)).cellAt 0).toI, .int .i64 ((A.nthA x1 (A.nat n5)).cellAt 1).toI, .int .i64 ((A.nthA x1 (A.nat n5)).cellAt 2).toI, .list (.ints .i64 ((A.nthA x1 (A.nat n5)).cellAt 3).toIs)])] fun x=>AV.bx x&&Nat.beq (Zac A x) 4,decide (List.length ((A.nthA x1 (A.nat n5)).cellAt 3).toIs≤4294967296),Zab (Nat.blt (A.nat n5) (A.lenA x1)) true,Zab (A.le 0 n5) (Nat.blt (A.nat n5) (A.lenA x1)),decide (1≤b∧b≤1000000000000),A.inR .i64 (A.add ((A.nthA x1 (A.nat n5)).cellAt 0).toI 1),decide (List.length ((A.nthA x1 (A.nat n5)).cellAt 3).toIs≤4294967296),Zab (Nat.blt (A.nat n5) (A.lenA x1)) true,Zab (A.le 0 n5) (Nat.blt (A.nat n5) (A.lenA x1)),A.eq (ZaL (A.nth ss (A.nat n5)) 3) 0,Zab (Zab (A.le 0 n5) (Nat.blt (A.nat n5) (A.len ss))) true,A.lt n5 (A.int (A.len ss)),Nat.ble (A.lenA x6+A.lenA [AV.agg (Row.gen [.int .i64 ((A.nthA x1 (A.nat n5)).cellAt 0).toI, .int .i64 ((A.nthA x1 (A.nat n5)).cellAt 1).toI, .int .i64 ((A.nthA x1 (A.nat n5)).cellAt 2).toI, .list (.ints .i64 ((A.nthA x1 (A.nat n5)).cellAt 3).toIs)])]) 4294967296,List.all [AV.agg (Row.gen [.int .i64 ((A.nthA x1 (A.nat n5)).cellAt 0).toI, .int .i64 ((A.nthA x1 (A.nat n5)).cellAt 1).toI, .int .i64 ((A.nthA x1 (A.nat n5)).cellAt 2).toI, .list (.ints .i64 ((A.nthA x1 (A.nat n5)).cellAt 3).toIs)])] fun x=>AV.bx x&&Nat.beq (Zac A x) 4,Zab (Nat.blt (A.nat n5) (A.lenA x1)) true,Zab (A.le 0 n5) (Nat.blt (A.nat n5) (A.lenA x1)),A.lt n5 (A.int (A.lenA x1))],
  Zgm (a) (b) (c) (d) (ps) (L) (ss) (x0) (x1) (A.add n5 1) (A.appA (A.appA x6 [AV.agg (Row.gen [.int .i64 ((A.nthA x1 (A.nat n5)).cellAt 0).toI, .int .i64 ((A.nthA x1 (A.nat n5)).cellAt 1).toI, .int .i64 ((A.nthA x1 (A.nat n5)).cellAt 2).toI, .list (.ints .i64 ((A.nthA x1 (A.nat n5)).cellAt 3).toIs)])]) [AV.agg (Row.gen [.int .i64 (ZaL (A.add ((A.nthA x1 (A.nat n5)).cellAt 0).toI 1) b), .int .i64 ((A.nthA x1 (A.nat n5)).cellAt 1).toI, .int .i64 ((A.nthA x1 (A.nat n5)).cellAt 2).toI, .list (.ints .i64 ((A.nthA x1 (A.nat n5)).cellAt 3).toIs)]),AV.agg (Row.gen [.int .i64 ((A.nthA x1 (A.nat n5)).cellAt 0).toI, .int .i64 ((A.nthA x1 (A.nat n5)).cellAt 1).toI, .int .i64 ((A.nthA x1 (A.nat n5)).cellAt 2).toI, .list (.ints .i64 ((A.nthA x1 (A.nat n5)).cellAt 3).toIs)])])):=by kernel_rfl
theorem ZGr(A:Ar)(a b c d:Int)(ps L:List AV)(ss:List Int)(x0 x1:List AV)(n5:Int)(x6:List AV):Zad A tab BWa 51 [true,true,true,true,true,true,true,true,false] (Zcj a b c d ps L ss x0 x1 n5 x6) (ZbP a b c d ps L ss x0 x1 n5 x6)=
 some (tr [1,1,8,4,6,0,0,0,3,4] [A.inR .i64 (A.add n5 1),!A.eq (ZaL (A.nth ss (A.nat n5)) 3) 0,Zab (Zab (A.le 0 n5) (Nat.blt (A.nat n5) (A.len ss))) true,A.lt n5 (A.int (A.len ss)),Nat.ble (A.lenA x6+A.lenA [AV.agg (Row.gen [.int .i64 ((A.nthA x1 (A.nat n5)).cellAt 0).toI, .int .i64 ((A.nthA x1 (A.nat n5)).cellAt 1).toI, .int .i64 ((A.nthA x1 (A.nat n5)).cellAt 2).toI, .list (.ints .i64 ((A.nthA x1 (A.nat n5)).cellAt 3).toIs)])]) 4294967296,List.all [AV.agg (Row.gen [.int .i64 ((A.nthA x1 (A.nat n5)).cellAt 0).toI, .int .i64 ((A.nthA x1 (A.nat n5)).cellAt 1).toI, .int .i64 ((A.nthA x1 (A.nat n5)).cellAt 2).toI, .list (.ints .i64 ((A.nthA x1 (A.nat n5)).cellAt 3).toIs)])] fun x=>AV.bx x&&Nat.beq (Zac A x) 4,Zab (Nat.blt (A.nat n5) (A.lenA x1)) true,Zab (A.le 0 n5) (Nat.blt (A.nat n5) (A.lenA x1)),A.lt n5 (A.int (A.lenA x1))],
  ZcM (a) (b) (c) (d) (ps) (L) (ss) (x0) (x1) (A.add n5 1) (A.appA x6 [AV.agg (Row.gen [.int .i64 ((A.nthA x1 (A.nat n5)).cellAt 0).toI, .int .i64 ((A.nthA x1 (A.nat n5)).cellAt 1).toI, .int .i64 ((A.nthA x1 (A.nat n5)).cellAt 2).toI, .list (.ints .i64 ((A.nthA x1 (A.nat n5)).cellAt 3).toIs)])])):=by kernel_rfl
theorem ZE0(A:Ar)(a b c d:Int)(ps L:List AV)(ss:List Int)(x0 x1:List AV)(n5:Int)(x6:List AV):Zad A tab BWa 51 [true,false,false,false,false,false,false,false,false] (Zcj a b c d ps L ss x0 x1 n5 x6) (ZbP a b c d ps L ss x0 x1 n5 x6)=
 some (tr [1,15,6,0,0,0,3,4] [A.inR .i64 (A.add n5 1),!A.lt n5 (A.int (A.len ss)),Nat.ble (A.lenA x6+A.lenA [AV.agg (Row.gen [.int .i64 ((A.nthA x1 (A.nat n5)).cellAt 0).toI, .int .i64 ((A.nthA x1 (A.nat n5)).cellAt 1).toI, .int .i64 ((A.nthA x1 (A.nat n5)).cellAt 2).toI, .list (.ints .i64 ((A.nthA x1 (A.nat n5)).cellAt 3).toIs)])]) 4294967296,List.all [AV.agg (Row.gen [.int .i64 ((A.nthA x1 (A.nat n5)).cellAt 0).toI, .int .i64 ((A.nthA x1 (A.nat n5)).cellAt 1).toI, .int .i64 ((A.nthA x1 (A.nat n5)).cellAt 2).toI, .list (.ints .i64 ((A.nthA x1 (A.nat n5)).cellAt 3).toIs)])] fun x=>AV.bx x&&Nat.beq (Zac A x) 4,Zab (Nat.blt (A.nat n5) (A.lenA x1)) true,Zab (A.le 0 n5) (Nat.blt (A.nat n5) (A.lenA x1)),A.lt n5 (A.int (A.lenA x1))],
  ZcM (a) (b) (c) (d) (ps) (L) (ss) (x0) (x1) (A.add n5 1) (A.appA x6 [AV.agg (Row.gen [.int .i64 ((A.nthA x1 (A.nat n5)).cellAt 0).toI, .int .i64 ((A.nthA x1 (A.nat n5)).cellAt 1).toI, .int .i64 ((A.nthA x1 (A.nat n5)).cellAt 2).toI, .list (.ints .i64 ((A.nthA x1 (A.nat n5)).cellAt 3).toIs)])])):=by kernel_rfl
theorem ZGm(A:Ar)(a b c d:Int)(ps L:List AV)(ss:List Int)(x0 x1:List AV)(n5:Int)(x6:List AV):Zaz A tab BWa 24 [false,true] 10 (Zcj a b c d ps L ss x0 x1 n5 x6) (ZbP a b c d ps L ss x0 x1 n5 x6)=
 some (tr [2,3,4] [A.lt 40 (A.int (A.lenA x6)),!A.lt n5 (A.int (A.lenA x1))],
  AV.bool true,none):=by kernel_rfl
theorem ZG0(A:Ar)(a b c d:Int)(ps L:List AV)(ss:List Int)(x0 x1:List AV)(n5:Int)(x6:List AV):Zaz A tab BWa 67 [false,false,false,false,false,false,true,true,true,true,true,true,true,true,true,true,true,true,true,true,true,true,true,true,true,true] 10 (Zcj a b c d ps L ss x0 x1 n5 x6) (ZbP a b c d ps L ss x0 x1 n5 x6)=
 some (tr [4,4,6,6,6,3,4,6,8,0,10,0,10,0,10,0,5,3,4] [decide (Zw8 (ZkV a b c x6)=true),A.eq (ZaI a b c x6) 0,A.eq (Zid a b c x6) 0,A.eq (ZaI a b c x6) 0,decide (List.map pkT (exO a b c x0)=List.map pkT (exO a b c x6)),decide (ZrM (exO a b c x0)=true),A.eq (ZaI a b c x6) 0,A.eq (ZaI a b c x0) 0,decide (Zaw x6=true),Zaw x6,decide (Zaw x6=true),Zaw x6,decide (Zaw x6=true),Zaw x6,decide (Zaw x0=true),Zaw x0,!A.lt 40 (A.int (A.lenA x6)),!A.lt n5 (A.int (A.lenA x1))],
  AV.bool (decide (List.map frV (ZkV a b c x6)=List.map frV x0)),none):=by kernel_rfl
def Zwq(a:Int)(b:Int)(c:Int)(d:Int)(ps:List AV)(L:List AV)(ss:List Int):AFrame:={ fn:=10,N:=256,env:=[(0,AV.agg (Row.gen [AV.int .i64 a,AV.int .i64 b])),(1,AV.agg (Row.gen [AV.int .i64 c,AV.int .i64 d,AV.list (Row.big (Sh.agg [Sh.int .i64,Sh.int .i64,Sh.ints .i64]) ps),AV.list (Row.big Sh.bool L)])),(2,AV.list (.ints .i64 ss))],todo:=[.code a10.code],defs:=[],rnd:=none,ret:=false,res:=[ARes.tmp 6] }
def ZLh(a:Int)(b:Int)(c:Int)(d:Int)(ps:List AV)(L:List AV)(ss:List Int):List AFrame:=[(Zwq a b c d ps L ss)]
theorem Ztj(a:Int)(b:Int)(c:Int)(d:Int)(ps:List AV)(L:List AV)(ss:List Int):Zak tab 10 [AV.agg (Row.gen [AV.int .i64 a,AV.int .i64 b]),AV.agg (Row.gen [AV.int .i64 c,AV.int .i64 d,AV.list (Row.big (Sh.agg [Sh.int .i64,Sh.int .i64,Sh.ints .i64]) ps),AV.list (Row.big Sh.bool L)]),AV.list (.ints .i64 ss)]=some (Zwq a b c d ps L ss):=rfl
def ZgC(a b c d:Int)(ps L:List AV)(ss:List Int)(x0:List AV):List AFrame:=[{ fn:=10,N:=256,env:=[(2,AV.list (.ints .i64 ss)),(3,AV.ptr 10004 0 0 0),(4,AV.ptr 10005 0 0 0),(7,AV.list (Row.big (Sh.agg [Sh.int .i64,Sh.int .i64,Sh.int .i64,Sh.ints .i64]) x0)),(9,AV.nils),(10,AV.int .i64 0)],todo:=.code (ACode.gh [] Zyi)::ZFQ,defs:=[],rnd:=none,ret:=false,res:=[ARes.tmp 6] }]
def Zfr(a:Int)(b:Int)(c:Int)(d:Int)(ps:List AV)(L:List AV)(ss:List Int)(x0:List AV):Zaa:=[(10004,{ base:=0,blks:=[Blk.row 23 2 (Row.gen [AV.agg (Row.gen [AV.int .i64 a,AV.int .i64 b])])] }),(10005,{ base:=0,blks:=[Blk.row 72 4 (Row.gen [AV.agg (Row.gen [AV.int .i64 c,AV.int .i64 d,AV.list (Row.big (Sh.agg [Sh.int .i64,Sh.int .i64,Sh.ints .i64]) ps),AV.list (Row.big Sh.bool L)])])] })]
abbrev Zm6(a:Int)(b:Int)(c:Int)(d:Int)(ps:List AV)(L:List AV)(ss:List Int)(x0:List AV):List AFrame×Zaa:=(ZgC a b c d ps L ss x0,Zfr a b c d ps L ss x0)
def Zgv(a b c d:Int)(ps L:List AV)(ss:List Int)(x0:List AV):List AFrame:=[{ fn:=10,N:=256,env:=[(2,AV.list (.ints .i64 ss)),(3,AV.ptr 10004 0 0 0),(4,AV.ptr 10005 0 0 0),(7,AV.list (Row.big (Sh.agg [Sh.int .i64,Sh.int .i64,Sh.int .i64,Sh.ints .i64]) x0)),(9,AV.nils),(12,AV.nils),(13,AV.int .i64 0)],todo:=.code (ACode.gh [] Zqo)::Ztk,defs:=[],rnd:=none,ret:=false,res:=[ARes.tmp 6] }]
def ZfE(a:Int)(b:Int)(c:Int)(d:Int)(ps:List AV)(L:List AV)(ss:List Int)(x0:List AV):Zaa:=[(10004,{ base:=0,blks:=[Blk.row 23 2 (Row.gen [AV.agg (Row.gen [AV.int .i64 a,AV.int .i64 b])])] }),(10005,{ base:=0,blks:=[Blk.row 72 4 (Row.gen [AV.agg (Row.gen [AV.int .i64 c,AV.int .i64 d,AV.list (Row.big (Sh.agg [Sh.int .i64,Sh.int .i64,Sh.ints .i64]) ps),AV.list (Row.big Sh.bool L)])])] })]
abbrev Ziz(a:Int)(b:Int)(c:Int)(d:Int)(ps:List AV)(L:List AV)(ss:List Int)(x0:List AV):List AFrame×Zaa:=(Zgv a b c d ps L ss x0,ZfE a b c d ps L ss x0)
theorem ZI2(A:Ar)(a b c d:Int)(ps L:List AV)(ss:List Int):Zad A tab BWe 111 [false,false,false,false,false,false,false,false,false,false,false,false,false,false,false,false,false,false,false,false,false,false,false,false,false,false,false,false,false,false,false,false,false,false,false,false,false,false,false,false,false,false,false,false,false,false,false,false,false,false,false,false,false,true] (ZLh a b c d ps L ss) []=
 some (tr [2,1,4,4,8,8,0,5,4,6,5,4,12,5,8,8,8,10,8,5,5] [List.isEmpty (Zi2 a b c d ps),!A.not (A.eq (Zqc a b (Zi2 a b c d ps)) 0),decide (Zy2 a b (Zi2 a b c d ps)=true),!A.lt 16 (A.int (A.lenA (Zi2 a b c d ps))),!A.not (A.eq (Zor a b c d ps) 0),decide (ZbW ps=true),decide (ZbW ps=true),!A.lt 16 (ZbG a ps),decide ((4≤a∧a≤24)∧ZbW ps=true),!A.not (A.eq (ZbV ps) 0),decide (ZbW ps=true),!A.not (decide (0≤d∧d≤63)),!A.not (A.eq (Zbn b c) 0),decide (-1000000≤b∧b≤1000000),!A.lt b 2,!A.not (A.eq (Zat a b) 0),!A.not (ZbW ps),!A.lt 16 (A.int (A.len ss)),!A.lt 12 (A.int (A.lenA ps)),!A.not true],
  Zm6 (a) (b) (c) (d) (ps) (L) (ss) (Zi2 a b c d ps)):=by kernel_rfl
theorem Zyv(A:Ar)(a b c d:Int)(ps L:List AV)(ss:List Int)(x0:List AV):Zad A tab BWe 29 [true,true,true,true,false] (ZgC a b c d ps L ss x0) (Zfr a b c d ps L ss x0)=
 some (tr [2,7,5] [!A.lt 2 (A.int 0),A.lt 0 (A.int (A.len ss))],
  Ziz (a) (b) (c) (d) (ps) (L) (ss) (x0)):=by kernel_rfl
theorem Zyu(A:Ar)(a b c d:Int)(ps L:List AV)(ss:List Int)(x0:List AV):Zad A tab BWe 29 [false,false,false,false,false] (ZgC a b c d ps L ss x0) (Zfr a b c d ps L ss x0)=
 some (tr [10,5] [!A.lt 0 (A.int (A.len ss))],
  Ziz (a) (b) (c) (d) (ps) (L) (ss) (x0)):=by kernel_rfl
theorem ZA1(A:Ar)(a b c d:Int)(ps L:List AV)(ss:List Int)(x0:List AV):Zaz A tab BWe 67 [false,false,false,false,false,false,true,true,true,true,true,true,true,true,true,true,true,true,true,true,true,true,true,true,true,true] 10 (Zgv a b c d ps L ss x0) (ZfE a b c d ps L ss x0)=
 some (tr [4,4,6,6,6,3,4,6,44,0,5,3,4] [decide (Zw8 (ZkV a b c [])=true),A.eq (ZaI a b c []) 0,A.eq (Zid a b c []) 0,A.eq (ZaI a b c []) 0,decide (List.map pkT (exO a b c x0)=List.map pkT (exO a b c [])),decide (ZrM (exO a b c x0)=true),A.eq (ZaI a b c []) 0,A.eq (ZaI a b c x0) 0,decide (Zaw x0=true),Zaw x0,!A.lt 40 (A.int 0),!A.lt 0 (A.int 0)],
  AV.bool (decide (List.map frV (ZkV a b c [])=List.map frV x0)),none):=by kernel_rfl
end Go.Proofs.Ytjhdnpmojhkbjaa
