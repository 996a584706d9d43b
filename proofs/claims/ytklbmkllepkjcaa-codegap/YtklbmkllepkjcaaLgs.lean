/- Ways through the trellis: no metric is greater than the bound of potentials; the best bits attain theirs, and come first; the forward potentials prove it. No condition. -/
import Derived.Test.YtklbmkllepkjcaaPc
namespace Go.Proofs.Ytklbmkllepkjcaa
section
variable (m p q:Int)(so:List Int)
def Zca:Nat→Nat→List Int→Int
 |_,_,[]=>0
 |t,s,b::bs=>gnI m p q so t s b+Zca (t+1) (nxS m s b).toNat bs
def ZkD:Nat→List Int→Nat
 |s,[]=>s
 |s,b::bs=>ZkD (nxS m s b).toNat bs
def okW:Nat→List Int→Prop
 |_,[]=>True
 |t,b::bs=>(b=0∨b=1∧t<ZaS m so)∧okW (t+1) bs
end
theorem Zhb{m:Int}{so:List Int} :∀ {a:List Int} {t:Nat},Zbc a=true→t+a.length≤ZaS m so→okW m so t a
 |[],_,_,_=>trivial
 |b::a,t,h,hl=>by
  have h':(decide (b=0∨b=1)&&Zbc a)=true:=h
  rw[Bool.and_eq_true]at h'
  have hb:=of_decide_eq_true h'.1
  simp only[List.length_cons]at hl
  exact⟨by omega,Zhb h'.2 (by omega)⟩
theorem ZjC{m:Int}{so:List Int} :∀(n t:Nat),okW m so t (List.replicate n 0)
 |0,_=>trivial
 |n+1,t=>⟨Or.inl rfl,ZjC n (t+1)⟩
theorem Zmb{m:Int}{so:List Int} :∀ {a b:List Int} {t:Nat},okW m so t a→okW m so (t+a.length) b→okW m so t (a++b)
 |[],b,t,_,h=>by simpa using h
 |x::a,b,t,h1,h2=>by
  refine⟨h1.1,Zmb h1.2 ?_⟩
  rw[show t+1+a.length=t+(x::a).length by simp;omega];exact h2
theorem Zlh{m:Int}{so:List Int}{bs:List Int}(h:Zbc bs=true)(hl:bs.length=ZaS m so):okW m so 0 (bs++List.replicate m.toNat 0):=
 Zmb (Zhb h (by omega)) (ZjC _ _)
theorem Zl3{m p q:Int}{so:List Int}{n s:Nat}(hs:s<stS m){b:Int}(hb:b=0∨b=1∧Zaa so-1-n<ZaS m so):gnI m p q so (Zaa so-1-n) s b+(dpP m p q so n).getD (nxS m s b).toNat 0≤(dpP m p q so (n+1)).getD s 0:=by
 rw[Zi7 m p q so hs,Zm6]
 unfold upP
 rcases hb with rfl |⟨rfl,hb⟩
 ·split<;>omega
 ·rw[if_pos hb];omega
section
variable {m p q:Int}{so:List Int}(h:OkC m p q so)
include h
theorem Zmm:∀(bs:List Int) (t s:Nat),s<stS m→Zbc bs=true→Zlm so (2*t) (Zmy m p q s bs)=Zca m p q so t s bs
 |[],_,_,_,_=>rfl
 |b::bs,t,s,hs,hb=>by
  have h':(decide (b=0∨b=1)&&Zbc bs)=true:=hb
  rw[Bool.and_eq_true]at h'
  have hbb:=of_decide_eq_true h'.1
  obtain⟨s1,s2,s3⟩:=ZaO h hs hbb
  have i:=Zmm bs (t+1) (nxS m s b).toNat s3 h'.2
  rw[Int.toNat_of_nonneg s2]at i
  rw[Zmy,Zlm,Zlm,Zca,←i,show 2*(t+1)=2*t+1+1 by omega,←Int.add_assoc,Zon so t (Zcq m p s b) (Zcq m q s b)];rfl
theorem Zk6:∀(bs:List Int) (t s:Nat),s<stS m→okW m so t bs→ZkD m s bs<stS m
 |[],_,_,hs,_=>hs
 |b::bs,t,s,hs,hw=>Zk6 bs (t+1) _ (ZaO h hs (by have:=hw.1;omega)).2.2 hw.2
theorem Zhj{P:Nat→List Int}{T:Nat}(hob:∀t s b,t<T→s<stS m→(b=0∨b=1∧t<ZaS m so)→(P t).getD s 0+gnI m p q so t s b≤(P (t+1)).getD (nxS m s b).toNat 0):
 ∀(bs:List Int) (t s:Nat),s<stS m→okW m so t bs→t+bs.length≤T→(P t).getD s 0+Zca m p q so t s bs≤(P (t+bs.length)).getD (ZkD m s bs) 0
 |[],t,s,_,_,_=>by simp[Zca,ZkD]
 |b::bs,t,s,hs,hw,hl=>by
  simp only[List.length_cons]at hl
  have hb:=hw.1
  have h1:=hob t s b (by omega) hs hb
  have i:=Zhj hob bs (t+1) (nxS m s b).toNat (ZaO h hs (by omega)).2.2 hw.2 (by omega)
  rw[show t+1+bs.length=t+(b::bs).length by simp;omega]at i
  rw[Zca,ZkD]
  omega
theorem Zlb:∀(bs:List Int) (t s:Nat),s<stS m→okW m so t bs→t+bs.length≤Zaa so→Zca m p q so t s bs+(dpP m p q so (Zaa so-(t+bs.length))).getD (ZkD m s bs) 0≤(dpP m p q so (Zaa so-t)).getD s 0
 |[],t,s,_,_,_=>by simp[Zca,ZkD]
 |b::bs,t,s,hs,hw,hl=>by
  simp only[List.length_cons]at hl
  have hb:=hw.1
  have i:=Zlb bs (t+1) (nxS m s b).toNat (ZaO h hs (by omega)).2.2 hw.2 (by omega)
  have d:=Zl3 (m:=m) (p:=p) (q:=q) (so:=so) (n:=Zaa so-(t+1)) (s:=s) (b:=b) hs (by rw[show Zaa so-1-(Zaa so-(t+1))=t by omega];exact hb)
  rw[show Zaa so-1-(Zaa so-(t+1))=t by omega,show Zaa so-(t+1)+1=Zaa so-t by omega]at d
  rw[show t+1+bs.length=t+(b::bs).length by simp;omega]at i
  rw[Zca,ZkD]
  omega
end
theorem ZpY(m:Int)(s:Nat):(nxS m s 0).toNat=s/2:=by
 unfold nxS ZqQ
 rw[Int.zero_mul,Int.zero_add];omega
theorem ZhD(m:Int):∀(n s:Nat),ZkD m s (List.replicate n 0)=s/2^n
 |0,s=>by simp[ZkD]
 |n+1,s=>by rw[List.replicate_succ,ZkD,ZhD m n,ZpY,Nat.div_div_eq_div_mul,Nat.pow_succ,Nat.mul_comm]
theorem ZjI(m:Int):∀(a b:List Int) (s:Nat),ZkD m s (a++b)=ZkD m (ZkD m s a) b
 |[],_,_=>rfl
 |_::a,b,_=>ZjI m a b _
section
variable {m p q:Int}{so:List Int}(h:OkC m p q so)
include h
theorem Zxd:stS m=2^m.toNat:=by
 have hm:=(Zak h.cv).1
 rcases hm with rfl |rfl |rfl<;>rfl
theorem Zi9{s:Nat}(hs:s<stS m):ZkD m s (List.replicate m.toNat 0)=0:=by
 rw[ZhD]
 rw[Zxd h]at hs
 exact Nat.div_eq_of_lt hs
theorem Zgz:ZaS m so+m.toNat=Zaa so∧Zaa so≤303∧so.length=2*Zaa so:=by
 have hm:=(Zak h.cv).1
 obtain⟨_,hl1,hl2,hl3⟩:=h.soft
 unfold ZaS Zaa;omega
theorem ZeU{bs:List Int}(hb:Zbc bs=true):Zlm so 0 (Zov m p q bs)=Zca m p q so 0 0 (bs++List.replicate m.toNat 0):=by
 have h2:=ZaE (Zak h.cv).1
 exact Zmm h (bs++List.replicate m.toNat 0) 0 0 (by omega) (ZmF hb (Zm4 _))
theorem Zjv{bs:List Int}(hb:Zbc bs=true)(hl:bs.length=ZaS m so):ZkD m 0 (bs++List.replicate m.toNat 0)=0:=by
 have h2:=ZaE (Zak h.cv).1
 rw[ZjI]
 exact Zi9 h (Zk6 h bs 0 0 (by omega) (Zhb hb (by omega)))
theorem Zzv{bs:List Int}(hb:Zbc bs=true)(hl:bs.length=ZaS m so):Zlm so 0 (Zov m p q bs)≤bvI m p q so:=by
 have h2:=ZaE (Zak h.cv).1
 obtain⟨z1,z2,z3⟩:=Zgz h
 have i:=Zlb h (bs++List.replicate m.toNat 0) 0 0 (by omega) (Zlh hb hl) (by simp;omega)
 rw[Zjv h hb hl,←ZeU h hb,List.length_append,List.length_replicate,hl,Nat.zero_add,z1,Nat.sub_self,ZeN m p q so (by omega),Nat.sub_zero,(ZeH h).2]at i
 simpa using i
theorem Zpn:∀(n s:Nat),n≤m.toNat→s<stS m→s/2^n=0→(dpP m p q so n).getD s 0=Zca m p q so (Zaa so-n) s (List.replicate n 0)
 |0,s,_,hs,h0=>by
  rw[ZeN m p q so hs,if_pos (by simpa using h0)];rfl
 |n+1,s,hn,hs,h0=>by
  obtain⟨z1,z2,z3⟩:=Zgz h
  obtain⟨s1,s2,s3⟩:=ZaO h hs (b:=0) (Or.inl rfl)
  have e:(nxS m s 0).toNat/2^n=0:=by rw[ZpY,Nat.div_div_eq_div_mul,Nat.mul_comm,←Nat.pow_succ];exact h0
  have i:=Zpn n (nxS m s 0).toNat (by omega) s3 e
  have hb:=Zch h (n:=n) (by omega) s3
  rw[Zi7 m p q so hs,Zm6,if_neg (by omega),upP,List.replicate_succ,Zca,i,show Zaa so-1-n=Zaa so-(n+1) by omega,show Zaa so-(n+1)+1=Zaa so-n by omega]
  have hm:=(Zak h.cv).1
  obtain⟨hg,_⟩:=h.soft
  have g:=Zdb (m:=m) (p:=p) (q:=q) hg (Zaa so-(n+1)) s 0
  have lo: -14*(n:Int)≤Zca m p q so (Zaa so-n) (nxS m s 0).toNat (List.replicate n 0):=by
   have key:∀(bs:List Int) (t s:Nat), -14*(bs.length:Int)≤Zca m p q so t s bs:=by
    intro bs
    induction bs with
    |nil=>intro t s;simp[Zca]
    |cons b bs ih=>
     intro t s
     have:=ih (t+1) (nxS m s b).toNat
     have g:=Zdb (m:=m) (p:=p) (q:=q) hg t s b
     rw[Zca,List.length_cons];omega
   have:=key (List.replicate n 0) (Zaa so-n) (nxS m s 0).toNat
   simpa using this
  omega
theorem Zo1:∀(j t s:Nat),t+j=ZaS m so→s<stS m→ -14*((Zaa so-t:Nat):Int)≤(dpR m p q so (Zaa so-t)).getD s 0→
 Zca m p q so t s (tbP m p q so j t s++List.replicate m.toNat 0)=(dpP m p q so (Zaa so-t)).getD s 0∧Zbc (tbP m p q so j t s)=true∧(tbP m p q so j t s).length=j
 |0,t,s,ht,hs,_=>by
  obtain⟨z1,z2,z3⟩:=Zgz h
  have e:Zaa so-t=m.toNat:=by omega
  rw[e,Zpn h m.toNat s (Nat.le_refl _) hs (by rw[←ZhD m];exact Zi9 h hs),show Zaa so-m.toNat=t by omega]
  exact⟨rfl,rfl,rfl⟩
 |j+1,t,s,ht,hs,hw=>by
  obtain⟨hg,_⟩:=h.soft
  obtain⟨z1,z2,z3⟩:=Zgz h
  have hg0:=Zdb (m:=m) (p:=p) (q:=q) hg t s 0
  have hg1:=Zdb (m:=m) (p:=p) (q:=q) hg t s 1
  obtain⟨_,a2,a3⟩:=ZaO h hs (b:=0) (Or.inl rfl)
  obtain⟨_,b2,b3⟩:=ZaO h hs (b:=1) (Or.inr rfl)
  obtain⟨n,hn⟩:∃n,Zaa so-t=n+1:=⟨Zaa so-t-1,by omega⟩
  have hn1:Zaa so-t-1=n:=by omega
  have w:=Ze1 h (n+1) (by omega) s hs
  have w0:=Ze1 h n (by omega) _ a3
  have w1:=Ze1 h n (by omega) _ b3
  have e0:=ZeF m p q so hs (n:=n)
  rw[show Zaa so-1-n=t by omega,ZtU,if_pos (by omega),upR,upR]at e0
  have i0:=Zo1 j (t+1) (nxS m s 0).toNat (by omega) a3
  have i1:=Zo1 j (t+1) (nxS m s 1).toNat (by omega) b3
  rw[show Zaa so-(t+1)=n by omega]at i0 i1
  rw[hn]at hw
  obtain⟨r1,r2,r3⟩:=Zmr (by omega) w w0 w1 hg0 hg1 hw e0
  rw[tbP,hn1,hn]
  by_cases hq:(dpR m p q so n).getD (nxS m s 0).toNat 0+gnI m p q so t s 0=(dpR m p q so (n+1)).getD s 0
  ·obtain⟨c1,c2,c3⟩:=i0 (r2 hq)
   rw[if_pos (r1.2 hq),List.cons_append,Zca,c1]
   exact⟨by have:=r1.2 hq;omega,c2,by rw[List.length_cons,c3]⟩
  ·obtain⟨d1,d2⟩:=r3 hq
   obtain⟨c1,c2,c3⟩:=i1 d2
   rw[if_neg (fun e=>hq (r1.1 e)),if_pos d1,List.cons_append,Zca,c1]
   exact⟨by omega,c2,by rw[List.length_cons,c3]⟩
theorem Zjr:Zlm so 0 (Zov m p q (blI m p q so))=bvI m p q so∧Zbc (blI m p q so)=true∧(blI m p q so).length=ZaS m so:=by
 have h2:=ZaE (Zak h.cv).1
 have hz:=ZcC h (Zaa so) (Nat.le_refl _)
 obtain⟨a,b,c⟩:=Zo1 h (ZaS m so) 0 0 (by omega) (by omega) (by simpa using hz)
 obtain⟨d,e⟩:=ZeH h
 rw[d]at a b c
 rw[Nat.sub_zero,e]at a
 exact⟨by rw[ZeU h b,a],b,c⟩
theorem ZmM:∀(j t s:Nat) (l:List Int),t+j=ZaS m so→s<stS m→l.length=j→Zbc l=true→Zca m p q so t s (l++List.replicate m.toNat 0)=(dpP m p q so (Zaa so-t)).getD s 0→ZkY l (tbP m p q so j t s)=false
 |0,t,s,l,_,_,hl,_,_=>by rw[List.eq_nil_of_length_eq_zero hl];rfl
 |j+1,t,s,[],_,_,hl,_,_=>by simp at hl
 |j+1,t,s,b::l,ht,hs,hl,hb,hp=>by
  obtain⟨z1,z2,z3⟩:=Zgz h
  have h':(decide (b=0∨b=1)&&Zbc l)=true:=hb
  rw[Bool.and_eq_true]at h'
  have hbb:=of_decide_eq_true h'.1
  simp only[List.length_cons]at hl
  obtain⟨s1,s2,s3⟩:=ZaO h hs hbb
  have hlt:ZkD m (nxS m s b).toNat l<stS m:=Zk6 h l (t+1) _ s3 (Zhb h'.2 (by omega))
  have i:=Zlb h (l++List.replicate m.toNat 0) (t+1) (nxS m s b).toNat s3 (Zmb (Zhb h'.2 (by omega)) (ZjC _ _)) (by simp;omega)
  rw[ZjI,Zi9 h hlt,List.length_append,List.length_replicate,show Zaa so-(t+1+(l.length+m.toNat))=0 by omega,ZeN m p q so (by omega),if_pos rfl,Int.add_zero]at i
  have d:=Zl3 (m:=m) (p:=p) (q:=q) (so:=so) (n:=Zaa so-(t+1)) (s:=s) (b:=b) hs (by omega)
  rw[show Zaa so-1-(Zaa so-(t+1))=t by omega,show Zaa so-(t+1)+1=Zaa so-t by omega]at d
  rw[List.cons_append,Zca]at hp
  have eq1:Zca m p q so (t+1) (nxS m s b).toNat (l++List.replicate m.toNat 0)=(dpP m p q so (Zaa so-(t+1))).getD (nxS m s b).toNat 0:=by omega
  have eq2:(dpP m p q so (Zaa so-t-1)).getD (nxS m s b).toNat 0+gnI m p q so t s b=(dpP m p q so (Zaa so-t)).getD s 0:=by rw[show Zaa so-t-1=Zaa so-(t+1) by omega];omega
  have i2:=ZmM j (t+1) (nxS m s b).toNat l (by omega) s3 (by omega) h'.2 eq1
  rw[tbP]
  rcases hbb with rfl |rfl
  ·rw[if_pos eq2,ZkY,if_pos rfl];exact i2
  ·split
   ·rw[ZkY,if_neg (by decide)];decide
   ·rw[ZkY,if_pos rfl];exact i2
theorem Zn4{l:List Int}(hb:Zbc l=true)(hl:l.length=ZaS m so)(hm:Zlm so 0 (Zov m p q l)=bvI m p q so):ZkY l (blI m p q so)=false:=by
 have h2:=ZaE (Zak h.cv).1
 obtain⟨d,e⟩:=ZeH h
 rw[←d]
 refine ZmM h (ZaS m so) 0 0 l (by omega) (by omega) hl hb ?_
 rw[←ZeU h hb,Nat.sub_zero,e,hm]
end
end Go.Proofs.Ytklbmkllepkjcaa
/- The forward metrics are potentials; their bound is the best metric. No condition. -/
namespace Go.Proofs.Ytklbmkllepkjcaa
section
variable {m p q:Int}{so:List Int}
theorem Zb8(l:List Int)(i j:Nat)(x:Int):(l.set i x).getD j 0=if i=j∧j<l.length then x else l.getD j 0:=by
 rw[List.getD_eq_getElem?_getD,List.getElem?_set,List.getD_eq_getElem?_getD]
 by_cases h:i=j
 ·subst h
  by_cases h2:i<l.length
  ·simp[h2]
  ·simp[h2]
 ·simp[h]
theorem Zqj(D acc:List Int)(t s:Nat)(b:Int)(j:Nat):acc.getD j 0≤(ZjM m p q so D t s b acc).getD j 0:=by
 unfold ZjM
 rw[Zb8]
 split
 ·rename_i h;rw[h.1];omega
 ·omega
theorem ZtD(D acc:List Int)(t s:Nat)(b:Int)(hl:(nxS m s b).toNat<acc.length):D.getD s 0+gnI m p q so t s b≤(ZjM m p q so D t s b acc).getD (nxS m s b).toNat 0:=by
 unfold ZjM
 rw[Zb8,if_pos ⟨rfl,hl⟩];omega
theorem Zxk(D acc:List Int)(t s:Nat)(j:Nat):acc.getD j 0≤(Zg8 m p q so D t s acc).getD j 0:=by
 have h1:=Zqj (m:=m) (p:=p) (q:=q) (so:=so) D acc t s 0 j
 have h2:=Zqj (m:=m) (p:=p) (q:=q) (so:=so) D (ZjM m p q so D t s 0 acc) t s 1 j
 unfold Zg8
 split<;>omega
end
theorem ZoE{m p q:Int}{so:List Int}{D acc:List Int}{t s:Nat}{b B:Int}(ht:t<Zaa so)(hs:s<stS m)(hb:b=0∨b=1∧t<ZaS m so)(hD:D.getD s 0+(dpP m p q so (Zaa so-t)).getD s 0≤B)(ha:∀j,j<stS m→acc.getD j 0+(dpP m p q so (Zaa so-(t+1))).getD j 0≤B):
 ∀j,j<stS m→(ZjM m p q so D t s b acc).getD j 0+(dpP m p q so (Zaa so-(t+1))).getD j 0≤B:=fun j hj=>by
 unfold ZjM
 rw[Zb8]
 split
 ·rename_i e
  have d:=Zl3 (m:=m) (p:=p) (q:=q) (so:=so) (n:=Zaa so-(t+1)) (s:=s) (b:=b) hs (by rw[show Zaa so-1-(Zaa so-(t+1))=t by omega];exact hb)
  rw[show Zaa so-1-(Zaa so-(t+1))=t by omega,show Zaa so-(t+1)+1=Zaa so-t by omega,e.1]at d
  have a:=ha j hj
  rw[e.1];omega
 ·exact ha j hj
section
variable {m p q:Int}{so:List Int}(h:OkC m p q so)
include h
theorem ZmY(D:List Int)(t:Nat):∀(k s:Nat),s<k→k≤stS m→∀b:Int,(b=0∨b=1∧t<ZaS m so)→D.getD s 0+gnI m p q so t s b≤(ZiW m p q so D t k).getD (nxS m s b).toNat 0
 |0,s,hs,_,_,_=>by omega
 |k+1,s,hs,hk,b,hb=>by
  have hbb:b=0∨b=1:=by omega
  by_cases hsk:s=k
  ·subst hsk
   have h3:=(ZaO h (s:=s) (by omega) hbb).2.2
   have hl:=Zgp (m:=m) (p:=p) (q:=q) (so:=so) D t s
   rw[ZiW,Zg8]
   rcases hb with rfl |⟨rfl,hb⟩
   ·have u:=ZtD (m:=m) (p:=p) (q:=q) (so:=so) D (ZiW m p q so D t s) t s 0 (by omega)
    split
    ·have:=Zqj (m:=m) (p:=p) (q:=q) (so:=so) D (ZjM m p q so D t s 0 (ZiW m p q so D t s)) t s 1 (nxS m s 0).toNat
     omega
    ·exact u
   ·rw[if_pos hb]
    exact ZtD D _ t s 1 (by rw[Zje];omega)
  ·have i:=ZmY D t k s (by omega) (by omega) b hb
   have:=Zxk (m:=m) (p:=p) (q:=q) (so:=so) D (ZiW m p q so D t k) t k (nxS m s b).toNat
   rw[ZiW];omega
theorem Zqd(t s:Nat)(b:Int)(hs:s<stS m)(hb:b=0∨b=1∧t<ZaS m so):(fwP m p q so t).getD s 0+gnI m p q so t s b≤(fwP m p q so (t+1)).getD (nxS m s b).toNat 0:=by
 rw[fwP];exact ZmY h _ t (stS m) s hs (Nat.le_refl _) b hb
theorem Zyn: -14*((Zaa so:Nat):Int)≤bvI m p q so:=ZcC h (Zaa so) (Nat.le_refl _)
theorem ZpB{D:List Int}{t:Nat}{B:Int}(ht:t<Zaa so)(hB: -14*((Zaa so:Nat):Int)≤B)(hD:∀s,s<stS m→D.getD s 0+(dpP m p q so (Zaa so-t)).getD s 0≤B):∀k,k≤stS m→∀j,j<stS m→(ZiW m p q so D t k).getD j 0+(dpP m p q so (Zaa so-(t+1))).getD j 0≤B
 |0,_,j,hj=>by
  obtain⟨z1,z2,z3⟩:=Zgz h
  have:=Zch h (n:=Zaa so-(t+1)) (by omega) hj
  have e:(Zcf m).getD j 0= -100000:=by unfold Zcf;rw[List.getD_eq_getElem?_getD,List.getElem?_replicate,if_pos hj];rfl
  rw[ZiW,e];omega
 |k+1,hk,j,hj=>by
  have i:=ZpB ht hB hD k (by omega)
  have i0:=ZoE ht (s:=k) (b:=0) (by omega) (Or.inl rfl) (hD k (by omega)) i
  rw[ZiW,Zg8]
  split
  ·rename_i hb
   exact ZoE ht (s:=k) (b:=1) (by omega) (Or.inr ⟨rfl,hb⟩) (hD k (by omega)) i0 j hj
  ·exact i0 j hj
theorem Zt7:∀t,t≤Zaa so→∀s,s<stS m→(fwP m p q so t).getD s 0+(dpP m p q so (Zaa so-t)).getD s 0≤bvI m p q so
 |0,_,s,hs=>by
  obtain⟨z1,z2,z3⟩:=Zgz h
  have hb:=Zch h (n:=Zaa so) (Nat.le_refl _) hs
  have lo:=Zyn h
  have e:=(ZeH h).2
  unfold fwP
  rw[Zb8,Nat.sub_zero]
  split
  ·rename_i e0;rw[←e0.1,e];omega
  ·have e2:(Zcf m).getD s 0= -100000:=by unfold Zcf;rw[List.getD_eq_getElem?_getD,List.getElem?_replicate,if_pos hs];rfl
   rw[e2];omega
 |t+1,ht,s,hs=>by
  rw[fwP]
  exact ZpB h (by omega) (Zyn h) (Zt7 t (by omega)) (stS m) (Nat.le_refl _) s hs
theorem Zpt:(fwP m p q so 0).getD 0 0=0:=by
 have h2:=ZaE (Zak h.cv).1
 unfold fwP
 rw[Zb8,if_pos ⟨rfl,by unfold Zcf;rw[List.length_replicate];omega⟩]
theorem Zzs:(fwP m p q so (Zaa so)).getD 0 0=bvI m p q so:=by
 have h2:=ZaE (Zak h.cv).1
 obtain⟨z1,z2,z3⟩:=Zgz h
 have a:=Zt7 h (Zaa so) (Nat.le_refl _) 0 (by omega)
 rw[Nat.sub_self,ZeN m p q so (by omega),if_pos rfl]at a
 obtain⟨b1,b2,b3⟩:=Zjr h
 have o:=Zhj h (P:=fwP m p q so) (T:=Zaa so) (fun t s b _ hs hb=>Zqd h t s b hs hb) (blI m p q so++List.replicate m.toNat 0) 0 0 (by omega) (Zlh b2 b3) (by simp;omega)
 rw[Zjv h b2 b3,←ZeU h b2,b1,Zpt h,List.length_append,List.length_replicate,b3,Nat.zero_add,z1]at o
 omega
end
theorem Zt9{m p q:Int}{so:List Int}{ps:List AV}{t:Nat} :∀(k s:Nat),(obT m p q so ps t k s=true↔∀i,s≤i→i<s+k→∀b:Int,(b=0∨b=1∧t<ZaS m so)→(pR ps t).getD i 0+gnI m p q so t i b≤(pR ps (t+1)).getD (nxS m i b).toNat 0)
 |0,s=>by
  constructor
  ·intro _ i h1 h2;omega
  ·intro _;rfl
 |k+1,s=>by
  have ih:=Zt9 (m:=m) (p:=p) (q:=q) (so:=so) (ps:=ps) (t:=t) k (s+1)
  rw[obT,Bool.and_eq_true,ih]
  have e:obS m p q so ps t s=true↔∀b:Int,(b=0∨b=1∧t<ZaS m so)→(pR ps t).getD s 0+gnI m p q so t s b≤(pR ps (t+1)).getD (nxS m s b).toNat 0:=by
   unfold obS obB
   rw[Bool.and_eq_true,decide_eq_true_eq]
   by_cases ht:t<ZaS m so
   ·rw[if_pos ht,decide_eq_true_eq]
    constructor
    ·rintro⟨a,b⟩ x (rfl |⟨rfl,_⟩)
     ·exact a
     ·exact b
    ·intro a;exact⟨a 0 (Or.inl rfl),a 1 (Or.inr ⟨rfl,ht⟩)⟩
   ·rw[if_neg ht]
    constructor
    ·rintro⟨a,_⟩ x (rfl |⟨_,c⟩)
     ·exact a
     ·exact absurd c ht
    ·intro a;exact⟨a 0 (Or.inl rfl),rfl⟩
  rw[e]
  constructor
  ·rintro⟨a,b⟩ i h1 h2
   by_cases hi:i=s
   ·subst hi;exact a
   ·exact b i (by omega) (by omega)
  ·intro a
   exact⟨a s (by omega) (by omega),fun i h1 h2=>a i (by omega) (by omega)⟩
theorem ZqL{m p q:Int}{so:List Int}{ps:List AV} :∀(k t:Nat),(obA m p q so ps k t=true↔∀j,t≤j→j<t+k→∀i,i<stS m→∀b:Int,(b=0∨b=1∧j<ZaS m so)→(pR ps j).getD i 0+gnI m p q so j i b≤(pR ps (j+1)).getD (nxS m i b).toNat 0)
 |0,t=>by
  constructor
  ·intro _ j h1 h2;omega
  ·intro _;rfl
 |k+1,t=>by
  have ih:=ZqL (m:=m) (p:=p) (q:=q) (so:=so) (ps:=ps) k (t+1)
  rw[obA,Bool.and_eq_true,ih,Zt9]
  constructor
  ·rintro⟨a,b⟩ j h1 h2 i hi
   by_cases hj:j=t
   ·subst hj;exact a i (by omega) (by omega)
   ·exact b j (by omega) (by omega) i hi
  ·intro a
   exact⟨fun i _ h2=>a t (by omega) (by omega) i (by omega),fun j h1 h2=>a j (by omega) (by omega)⟩
section
variable {m p q:Int}{so:List Int}{ps:List AV}(h:OkC m p q so)
include h
theorem ZDq(h0:ptE m p q so ps=0):OkP m so ps∧∀t s b,t<Zaa so→s<stS m→(b=0∨b=1∧t<ZaS m so)→(pR ps t).getD s 0+gnI m p q so t s b≤(pR ps (t+1)).getD (nxS m s b).toNat 0:=by
 unfold ptE at h0
 split at h0
 ·rename_i hn
  split at h0
  ·rename_i hr
   split at h0
   ·rename_i ho
    refine⟨Zug (Zak h.cv).1 hn hr,fun t s b ht hs hb=>?_⟩
    exact(ZqL _ _).1 ho t (by omega) (by omega) s hs b hb
   ·cases h0
  ·rename_i hr;exact absurd h0 hr
 ·cases h0
theorem ZrL(h0:ptE m p q so ps=0){bs:List Int}(hb:Zbc bs=true)(hl:bs.length=ZaS m so):Zlm so 0 (Zov m p q bs)≤pbI so ps:=by
 have h2:=ZaE (Zak h.cv).1
 obtain⟨z1,z2,z3⟩:=Zgz h
 obtain⟨_,ho⟩:=ZDq h h0
 have o:=Zhj h (P:=pR ps) (T:=Zaa so) ho (bs++List.replicate m.toNat 0) 0 0 (by omega) (Zlh hb hl) (by simp;omega)
 rw[Zjv h hb hl,←ZeU h hb,List.length_append,List.length_replicate,hl,Nat.zero_add,z1]at o
 unfold pbI;omega
end
section
variable {m p q:Int}{so:List Int}(h:OkC m p q so)
include h
theorem Zgo:cdW m p q so=0:=by rw[Zqm];unfold cdE;rw[h.cv];simp[h.sf]
theorem ZhP{t:Nat}(ht:t≤Zaa so):pR (poL m p q so) t=fwP m p q so t:=by
 unfold pR poL
 rw[if_neg (fun e=>e (Zgo h)),List.getD_eq_getElem?_getD,List.getElem?_map,List.getElem?_range (by omega)];rfl
theorem Ztx:(poL m p q so).length=Zaa so+1:=by
 unfold poL
 rw[if_neg (fun e=>e (Zgo h))];simp
theorem ZCq:ptE m p q so (poL m p q so)=0:=by
 have hm:=(Zak h.cv).1
 have h2:=ZaE hm
 obtain⟨hg,_⟩:=h.soft
 obtain⟨z1,z2,z3⟩:=Zgz h
 have hr:ZcZ m (poL m p q so) (Zaa so+1) 0=0:=by
  have key:∀k t,t+k=Zaa so+1→ZcZ m (poL m p q so) k t=0:=by
   intro k
   induction k with
   |zero=>intro t _;rfl
   |succ k ih=>
    intro t ht
    have e:ZqR m (pR (poL m p q so) t)=0:=by
     rw[ZhP h (by omega)]
     have l:=Zmc (m:=m) (p:=p) (q:=q) (so:=so) t
     have r:ZbB (fwP m p q so t) (-1000000) 1000000=0:=Zu1 fun j hj=>by
      have:=Zjy (m:=m) (p:=p) (q:=q) hg t j
      exact decide_eq_true (by omega)
     unfold ZqR Zap
     rw[r]
     simp[show ((fwP m p q so t).length:Int)=stN m by omega,ZaF]
    rw[ZcZ,if_pos e];exact ih (t+1) (by omega)
  exact key _ _ (by omega)
 have ho:obA m p q so (poL m p q so) (Zaa so) 0=true:=(ZqL _ _).2 fun j _ hj i hi b hb=>by
  rw[ZhP h (by omega),ZhP h (by omega)]
  exact Zqd h j i b hi hb
 unfold ptE
 rw[if_pos (Ztx h),if_pos hr,if_pos ho]
theorem ZrV:pbI so (poL m p q so)=bvI m p q so:=by
 unfold pbI
 rw[ZhP h (Nat.le_refl _),ZhP h (Nat.zero_le _),Zpt h,Zzs h];omega
end
end Go.Proofs.Ytklbmkllepkjcaa
/- The laws of potentials: the walks. No condition. -/
namespace Go.Proofs.Ytklbmkllepkjcaa
theorem Ztu{ps:List AV}{B:Nat}(h:∀j,j<ps.length→(pR ps j).length≤B)(hB:B≤1000000):rlP ps=true:=by
 unfold rlP
 refine List.all_eq_true.2 fun v hv=>?_
 obtain⟨j,hj,rfl⟩:=List.mem_iff_getElem.1 hv
 have:=h j hj
 unfold pR at this
 rw[List.getD_eq_getElem?_getD,List.getElem?_eq_getElem hj]at this
 exact decide_eq_true (Nat.le_trans this hB)
section
variable {m p q:Int}{so:List Int}
theorem Zwt(h:OkC m p q so):ZaS m so≤300:=by
 have hm:=(Zak h.cv).1
 have hs:=h.sf
 unfold sfE at hs
 split at hs
 ·cases hs
 ·split at hs
  ·cases hs
  ·unfold ZaS;omega
theorem Zss(h:OkC m p q so):blW m p q so=blI m p q so∧bvW m p q so=bvI m p q so∧(blI m p q so).length=ZaS m so∧bsE (blI m p q so)=0:=by
 have e:=Zgo h
 obtain⟨b1,b2,b3⟩:=Zjr h
 refine⟨by simp[blW,e],by simp[bvW,e],b3,?_⟩
 unfold bsE;rw[if_neg (by rw[b3];have:=Zwt h;omega),if_pos b2]
end
theorem ZuP{C:Ctx}(hC:C.P=Try.prog)(m p q:Int)(bs so:List Int)(ps:List AV)(h:OkC m p q so)(hl:so.length≤60)(hbl:bs.length≤24)(hn:ps.length≤40)(hr:rlP ps=true):Ev C (Zi4 m p q bs so ps ps.length) (Zgr m p q bs so ps ps.length) (Zbe 7 (.bool true) none):=by
 have e:=Zgo h
 obtain⟨w1,w2,w3,w4⟩:=Zss h
 obtain⟨b1,b2,b3⟩:=Zjr h
 obtain⟨z1,z2,z3⟩:=Zgz h
 have hm:=(Zak h.cv).1
 have hq:((so.length:Nat):Int).tdiv 2=(Zaa so:Int):=rfl
 have m1:meF m p q (blI m p q so) so=0:=Zt5 h w4 (by rw[w3];omega)
 have m2:meI m p q (blI m p q so) so=bvI m p q so:=by unfold meI;rw[if_pos m1,b1]
 have o1:=ZCq h
 have o2:pdE m p q so (poL m p q so)=0:=by simp[pdE,e,o1]
 have o3:pdI m p q so (poL m p q so)=bvI m p q so:=by unfold pdI;rw[if_pos o2,ZrV h]
 have o4:=Ztx h
 have o5:rlP (poL m p q so)=true:=Ztu (B:=8) (fun j hj=>by
  rw[ZhP h (by omega),Zmc]
  have:=ZaE hm;omega) (by omega)
 have g1:pdE m p q so ps=0→bvI m p q so≤pdI m p q so ps:=fun h0=>by
  have h1:ptE m p q so ps=0:=by unfold pdE at h0;rwa[if_pos e]at h0
  have:=ZrL h h1 b2 b3
  unfold pdI;rw[if_pos h0];omega
 have g2:bsE bs=0→bs.length=ZaS m so→meF m p q bs so=0∧meI m p q bs so≤bvI m p q so∧(meI m p q bs so<bvI m p q so∨meI m p q bs so=bvI m p q so∧ZkY bs (blI m p q so)=false):=fun h0 h1=>by
  obtain⟨_,hb⟩:=Zng h0
  have f1:meF m p q bs so=0:=Zt5 h h0 (by omega)
  have f2:meI m p q bs so=Zlm so 0 (Zov m p q bs):=by unfold meI;rw[if_pos f1]
  have f3:=Zzv h hb h1
  refine⟨f1,by omega,?_⟩
  by_cases hlt:meI m p q bs so<bvI m p q so
  ·exact .inl hlt
  ·exact .inr ⟨by omega,Zn4 h hb h1 (by omega)⟩
 have a1:so.length≤1000000:=by omega
 have a2:ps.length≤1000000:=by omega
 have a3:bs.length≤1000000:=by omega
 have a4:(poL m p q so).length≤1000000:=by omega
 have a6:ZaS m so≤1000000:=by omega
 have q1:(ZaS m so:Int)=(Zaa so:Int)-m:=by omega
 have q2:(-9223372036854775808≤(Zaa so:Int)-m∧(Zaa so:Int)-m≤9223372036854775807)∧ -9223372036854775808≤(Zaa so:Int)∧(Zaa so:Int)≤9223372036854775807:=by omega
 refine tgo hC Zv1 Zme ?_
 simp only[Zgj,Zyi,Zn7,Zn8,hq,w1,w2]
 by_cases hp:pdE m p q so ps=0
 ·have g1:=g1 hp
  by_cases hb:bsE bs=0
  ·by_cases hbl2:bs.length=ZaS m so
   ·obtain⟨f1,f2,f3⟩:=g2 hb hbl2
    rcases f3 with f3 |⟨f3,f4⟩
    ·simp[a1,a2,a3,a4,a6,e,hr,w3,m1,m2,o2,o3,o5,hp,hb,hbl2,f1,f2,f3,q1,q2,show ¬pdI m p q so ps<bvI m p q so by omega]
    ·simp[a1,a2,a3,a4,a6,e,hr,w3,m1,m2,o2,o3,o5,hp,hb,hbl2,f1,f3,f4,q1,q2,show ¬pdI m p q so ps<bvI m p q so by omega]
   ·simp[a1,a2,a3,a4,a6,e,hr,w3,m1,m2,o2,o3,o5,hp,hb,q1,q2,show ¬pdI m p q so ps<bvI m p q so by omega]
    omega
  ·simp[a1,a2,a3,a4,a6,e,hr,w3,m1,m2,o2,o3,o5,hp,hb,q1,q2,show ¬pdI m p q so ps<bvI m p q so by omega]
 ·by_cases hb:bsE bs=0
  ·by_cases hbl2:bs.length=ZaS m so
   ·obtain⟨f1,f2,f3⟩:=g2 hb hbl2
    rcases f3 with f3 |⟨f3,f4⟩
    ·simp[a1,a2,a3,a4,a6,e,hr,w3,m1,m2,o2,o3,o5,hp,hb,hbl2,f1,f2,f3,q1,q2]
    ·simp[a1,a2,a3,a4,a6,e,hr,w3,m1,m2,o2,o3,o5,hp,hb,hbl2,f1,f3,f4,q1,q2]
   ·simp[a1,a2,a3,a4,a6,e,hr,w3,m1,m2,o2,o3,o5,hp,hb,q1,q2]
    omega
  ·simp[a1,a2,a3,a4,a6,e,hr,w3,m1,m2,o2,o3,o5,hp,hb,q1,q2]
theorem ZsN{C:Ctx}(hC:C.P=Try.prog)(m p q:Int)(bs so:List Int)(ps:List AV)(h:OkC m p q so)(hl:so.length≤60)(hbl:bs.length≤24)(hn:ps.length≤40):∀k t:Nat,t+k=ps.length→(∀j,j<t→(pR ps j).length≤10)→Ev C (Zi4 m p q bs so ps t) (Zgr m p q bs so ps t) (Zbe 7 (.bool true) none):=by
 intro k
 induction k with
 |zero=>
  intro t ht hj
  rw[show t=ps.length by omega]
  exact ZuP hC m p q bs so ps h hl hbl hn (Ztu (fun j hj2=>hj j (by omega)) (by omega))
 |succ k ih=>
  intro t ht hj
  refine tgo hC Zv1 Zme ?_
  have e1:AV.toIs (ps.getD t .top)=pR ps t:=rfl
  by_cases h0:(pR ps t).length≤10
  ·have i:=ih (t+1) (by omega) (fun j hj2=>by
    by_cases hjt:j=t
    ·subst hjt;exact h0
    ·exact hj j (by omega))
   simp[-List.getD_eq_getElem?_getD,Zgj,e1,show(t:Int)<ps.length by omega,show t<ps.length by omega,show ¬(10:Int)<(pR ps t).length by omega]at i⊢
   exact⟨by omega,i⟩
  ·simp[-List.getD_eq_getElem?_getD,Zgj,e1,show(t:Int)<ps.length by omega,show t<ps.length by omega,show(10:Int)<(pR ps t).length by omega]
theorem ZuR(m p q:Int)(bs so:List Int)(ps:List AV):Zah Try.prog 7 [.agg (.gen [.int .i64 m, .int .i64 p, .int .i64 q]), .agg (.gen [.list (.ints .i64 bs), .list (.ints .i64 so)]), .list (.big (.ints .i64) ps)] (.bool true) none:=by
 refine start (ZBD m p q bs so ps) fun C hC=>tgo hC Zv1 ZFR ?_
 by_cases h0:cdE m p q so=0
 ·have h:=Zp6 (by rw[Zqm];exact h0:cdW m p q so=0)
  have hl:so.length≤1000000:=by obtain⟨_,_,_,z⟩:=h.soft;omega
  by_cases h1:(60:Int)<so.length
  ·simp[Zxm,h0,h1]
  ·by_cases h2:(24:Int)<bs.length
   ·simp[Zxm,h0,h1,h2]
   ·by_cases h3:(40:Int)<ps.length
    ·simp[Zxm,h0,h1,h2,h3]
    ·have i:=ZsN hC m p q bs so ps h (by omega) (by omega) (by omega) ps.length 0 (by omega) (fun j hj=>by omega)
     simp[Zxm,h0,h1,h2,h3]at i⊢
     exact i
 ·simp[Zxm,h0]
end Go.Proofs.Ytklbmkllepkjcaa
/- CodeGap: for every input it returns true, and the arguments read as they did. No condition. -/
namespace Go.Proofs.Ytklbmkllepkjcaa
open Go.ChangeShapes Go.WideShapes Go.ChangeAt Go.RowKit
theorem sh7_0:ZrP Try.prog 8 24=some [.int .i64, .int .i64, .int .i64]:=by kernel_rfl
theorem sh7_1:ZrP Try.prog 8 65=some [.ints .i64, .ints .i64]:=by kernel_rfl
theorem sh7_2:ZrP Try.prog 8 56=some [.big (.ints .i64)]:=by kernel_rfl
set_option maxRecDepth 100000 in
theorem law7(os:Os)(started:os.Started)(H:Type)(enc:TypeId×Value→H):
 ReturnsInHanded {} Try.checked os 7 .any (Rows.codeGapSpec.pre6 enc Try.prog Try.f7 Rows.codeGapRow.domain false) (Rows.codeGapSpec.post enc Try.prog Try.f7 false true false false):=by
 refine returnsInHanded_of_change (C:=Try.checked) own started (by kernel_rfl) Try.func7
  (ChangeSpec.witness6 (enc:=enc) (C:=Try.checked) false ⟨#[], #[.agg #[.int .i64 0, .int .i64 0, .int .i64 0], .agg #[.slice none 0 0, .slice none 0 0], .slice none 0 0],[]⟩ 8 (by kernel_rfl) (by kernel_rfl) (by kernel_rfl) (by kernel_rfl)) ?_
 intro W base args ds gs before hval0 hW _ _
 have hval:∀(j:Nat) t v,Try.f7.params[j]? =some t→args[j]? =some v→Value.okWide Try.prog W .any base t v:=hval0
 have hW':=hW
 obtain⟨p,q,hA0,hV,rfl,_,_⟩:=hW
 have hA:DataW.TrodAll enc Try.prog W 0 (fun _=>true) true Try.f7.params.toList args.toList ds p:=hA0
 rw[Try.params7]at hA hval
 obtain⟨v0,v1,v2,d0,d1,d2,p0,p1,p2,rfl,rfl,rfl,h0,h1,h2⟩:=trodAll_three hA
 obtain⟨rfl,rfl⟩:=trodVars_none hV
 have hlt:∀x∈p0++(p1++p2),x.block<W.heap.size:=fun x hx=>by simpa using hW'.lt x (by simpa using hx)
 obtain⟨us0,r0,c0⟩:=ZtN (L:=⟨fun _ _=>0,fun _ _=>0⟩) sh7_0 (okWide_struct Try.underlying24 (hval 0 24 v0 rfl rfl)) h0
 obtain⟨m,g0,g1,rfl⟩:=ZuN c0
 obtain⟨us1,r1,c1⟩:=ZtN (L:=⟨fun _ _=>0,fun _ _=>0⟩) sh7_1 (okWide_struct Try.underlying65 (hval 1 65 v1 rfl rfl)) h1
 obtain⟨bs,xs,rfl⟩:=ZwV c1
 obtain⟨u2,r2,c2⟩:=Zzc (L:=⟨fun _ _=>0,fun _ _=>0⟩) sh7_2 (by obtain⟨a,l,c,rfl⟩:=okWide_slice Try.underlying56 (hval 2 56 v2 rfl rfl);rfl) h2
 obtain⟨ps,rfl⟩:=Zz2 c2
 refine(Zsr trivial (ZuR m g0 g1 bs xs ps) (RelL.cons ( r0) (RelL.cons ( r1) (RelL.cons ( r2) RelL.nil)))).mono fun e W' ⟨he,hb⟩=>?_
 subst he
 refine⟨_,rfl,_,_,_,[],p0++(p1++p2),[],hW',trodAll_mk1 (shut_bool Try.underlying4 true),?_,rfl,hb.frame _,fun h=>by cases h⟩
 exact trodAll_mk3 (Below.trod Zlq (by kernel_rfl) (of_decide_eq_true (by kernel_rfl)) h0 hb (fun x hx=>hlt x (List.mem_append_left _ hx))) (Below.trod Zlq (by kernel_rfl) (of_decide_eq_true (by kernel_rfl)) h1 hb (fun x hx=>hlt x (List.mem_append_right _ (List.mem_append_left _ hx)))) (Below.trod Zlq (by kernel_rfl) (of_decide_eq_true (by kernel_rfl)) h2 hb (fun x hx=>hlt x (List.mem_append_right _ (List.mem_append_right _ hx))))
theorem n7 : Try.checked.prog.funcNamed "cassegrain/cassegrainlaw05.CodeGap" = some 7 := by kernel_rfl
theorem j7:joinedFacts Try.checked.prog 7 Try.f7 Rows.codeGapSpec Rows.codeGapRow=true:=by kernel_rfl
theorem i7:Try.f7.isInstance Try.checked.prog Rows.codeGapRow.origin Rows.codeGapRow.targs:=of_decide_eq_true (by kernel_rfl)
theorem w7:Try.f7.isWrapper Try.checked.prog Rows.codeGapRow.wrapper Rows.codeGapRow.mainSum:=by
 unfold Func.isWrapper
 first |(rw [if_pos (by decide +kernel)];kernel_rfl) |(rw [if_neg (by decide +kernel)];exact⟨rfl,rfl⟩)
theorem CodeGap_holds:Rows.CodeGapSaid:=
 OpenClaim.holds_of_wide 7 Try.f7 rfl rfl rfl rfl rfl rfl rfl ⟨rfl,rfl,rfl,rfl,rfl⟩ rfl rfl rfl rfl rfl n7 Try.func7 j7 i7 w7 (fun os started H enc _=>law7 os started H enc)
#print axioms CodeGap_holds
end Go.Proofs.Ytklbmkllepkjcaa
