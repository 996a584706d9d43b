/- Contracts as a list. No condition. -/
import Derived.Test.YtklbmkllepkjcaaGu7
import Derived.KernelRfl
namespace Go.Proofs.Ytklbmkllepkjcaa
theorem ZpX{m p q:Int}{so:List Int} :∀(j t:Nat) (s:Int),(tbR m p q so j t s).length=j∧Zax (tbR m p q so j t s)=true
 |0,_,_=>⟨rfl,rfl⟩
 |j+1,t,s=>by
  rw[tbR]
  split
  ·have:=ZpX (m:=m) (p:=p) (q:=q) (so:=so) j (t+1) (nxS m s 0)
   exact⟨by rw[List.length_cons,this.1],ZdL (a:=[0]) rfl this.2⟩
  ·have:=ZpX (m:=m) (p:=p) (q:=q) (so:=so) j (t+1) (nxS m s 1)
   exact⟨by rw[List.length_cons,this.1],ZdL (a:=[1]) rfl this.2⟩
def neL(bs:List Int)(k:Nat):List Int:=(List.range k).map fun i=>nbI (paL 4 bs i) 0
theorem Zer(bs:List Int)(k:Nat):(neL bs k).length=k:=by simp[neL]
theorem ZD5(bs:List Int)(k:Nat):neL bs (k+1)=neL bs k++[nbI (paL 4 bs k) 0]:=by simp[neL,List.range_succ]
theorem ZNw:∀l:List Int,l.length=4→Zax l=true→0≤nbI l 0∧nbI l 0≤15
 |[a,b,c,e],_,hb=>by
  have h0:a=0∨a=1:=Zcn hb 0
  have h1:b=0∨b=1:=Zcn hb 1
  have h2:c=0∨c=1:=Zcn hb 2
  have h3:e=0∨e=1:=Zcn hb 3
  simp only[nbI]
  omega
theorem Zzd{l:List Int}(h:∀j,j<l.length→l.getD j 0=0∨l.getD j 0=1):Zax l=true:=List.all_eq_true.2 fun x hx=>by
 obtain⟨j,hj,rfl⟩:=List.mem_iff_getElem.1 hx
 have:=h j hj
 rw[List.getD_eq_getElem?_getD,List.getElem?_eq_getElem hj]at this
 exact decide_eq_true this
theorem ZmQ{n:Nat}{l:List Int}(h:Zax l=true)(i:Nat):Zax (paL n l i)=true:=Zzd fun j hj=>by
 have hj2:j<n:=by unfold paL at hj;rw[List.length_take]at hj;omega
 rw[Zp4 hj2]
 exact Zcn h _
theorem ZzV{bs:List Int}{k:Nat}(hb:Zax bs=true)(hl:bs.length=k*4):ZaP (neL bs k) 0 15=0:=Zfr fun j hj=>by
 rw[Zer]at hj
 have:=ZNw _ (ZcG hl hj) (ZmQ hb j)
 have e:(neL bs k).getD j 0=nbI (paL 4 bs j) 0:=by simp[neL,hj]
 rw[e]
 exact decide_eq_true this
def dlR(h:Int)(al:List Int)(n:Nat):Nat→Nat→List Int→Int→Option (List Int×Int)
 |0,_,out,c=>some (out,c)
 |k+1,i,out,c=>if(deO h (paL 15 al i)).isSome=true then dlR h al n k (i+1) (out++(deV h (paL 15 al i)).take n) (c+deN h (paL 15 al i))else none
def alL(m p q:Int)(so:List Int)(d:Nat):List Int:=tS (neL (blI m p q so) (15*d)) 15
@[irreducible] def dlO (m p q h D:Int) (so:List Int):Option (List Int×Int):=dlR h (alL m p q so D.toNat) (15-2*h).toNat D.toNat 0 [] 0
@[irreducible] def dlV (m p q h D:Int) (so:List Int):List Int:=match dlO m p q h D so with |none=>[] |some (x,_)=>x
@[irreducible] def dlN (m p q h D:Int) (so:List Int):Int:=match dlO m p q h D so with |none=>0 |some (_,z)=>z
def ZyO(m p q h D:Int)(so:List Int):Bool:=decide (lkE m p q h D=0)&&(decide ((so.length:Int)=2*(4*D*15+m))&&decide (ZaP so (-7) 7=0))
structure RcK (m p q h D:Int) (so:List Int) (n d:Nat):Prop where
 hb:hfB h=true
 hd:D=d
 d1:1≤d∧d≤4
 hn:(n:Int)=15-2*h
 n1:9≤n∧n≤13
 ok:okI m p q so=true
 bl:(blI m p q so).length=60*d
 bb:Zax (blI m p q so)=true
 sl:so.length≤1000
theorem ZBh{m p q h D:Int}{so:List Int}(g:ZyO m p q h D so=true):∃n d,RcK m p q h D so n d:=by
 unfold ZyO at g
 rw[Bool.and_eq_true,Bool.and_eq_true]at g
 obtain⟨g1,g2,g3⟩:=g
 have g1:=of_decide_eq_true g1
 have g2:=of_decide_eq_true g2
 have g3:=of_decide_eq_true g3
 obtain⟨e1,e2,h1,h2,h3,h4⟩:=Zn9 g1
 have hm:=(Zap e1).1
 obtain⟨d,rfl⟩:=Int.eq_ofNat_of_zero_le (show 0≤D by omega)
 obtain⟨n,hn⟩:=Int.eq_ofNat_of_zero_le (show 0≤15-2*h by omega)
 have e3:sfE m so=0:=by
  unfold sfE
  rw[if_neg (by omega),if_neg (by omega)];exact g3
 obtain⟨t1,t2⟩:=ZpX (m:=m) (p:=p) (q:=q) (so:=so) (Zb4 m so) 0 0
 refine⟨n,d,e2,rfl,by omega,by omega,by omega,by unfold okI;rw[e1,e3];rfl,?_,t2,by omega⟩
 show(tbR m p q so (Zb4 m so) 0 0).length=_
 rw[t1];unfold Zb4;omega
section
variable {m p q h D:Int}{so:List Int}{n d:Nat}(K:RcK m p q h D so n d)
include K
theorem RcK.ne:ZaP (neL (blI m p q so) (15*d)) 0 15=0:=ZzV K.bb (by rw[K.bl];omega)
theorem RcK.al:(alL m p q so d).length=d*15∧ZaP (alL m p q so d) 0 15=0:=⟨by rw[alL,ZdW,Zer];omega,ZvV K.ne⟩
theorem RcK.wd{i:Nat}(hi:i<d):okw (paL 15 (alL m p q so d) i)=true:=okw_iff.2 ⟨ZcG K.al.1 hi,Zpf K.al.2 i⟩
theorem RcK.de{i:Nat}(hi:i<d)(hs:(deO h (paL 15 (alL m p q so d) i)).isSome=true):(deV h (paL 15 (alL m p q so d) i)).length=15∧0≤deN h (paL 15 (alL m p q so d) i)∧deN h (paL 15 (alL m p q so d) i)≤3:=by
 obtain⟨a,_,b,c⟩:=Zwn (K.wd hi) K.hb hs
 have q:=of_decide_eq_true K.hb
 refine⟨(okw_iff.1 a).1,?_,by omega⟩
 rw[b]
 exact(ZqQ _ _).1
theorem RcK.rc:rcB (neL (blI m p q so) (15*d)) D=true:=by
 have h1:=K.d1
 refine decide_eq_true ?_
 rw[K.hd,Zer,Int.toNat_natCast,Nat.mul_div_cancel _ (by omega)]
 exact⟨by omega,by omega,by omega,by omega,rfl⟩
theorem RcK.dl:dlO m p q h D so=dlR h (alL m p q so d) n d 0 [] 0:=by
 unfold dlO
 rw[←K.hn,K.hd,Int.toNat_natCast,Int.toNat_natCast]
end
section
variable {C:Ctx}(hC:C.P=Try.prog)(m p q h D:Int)(so:List Int)(n d:Nat)(K:RcK m p q h D so n d)
include hC K
end
theorem ZGa{a b:Int}(h:0≤a∧a≤7)(hb:b=0∨b=1):std.bits Go.BinOp.or .i64 (std.shl a 1) b=2*a+b:=by
 obtain⟨k,rfl⟩:=Int.eq_ofNat_of_zero_le h.1
 have:=(by decide:∀x:Fin 8,std.bits Go.BinOp.or .i64 (std.shl (x.val:Int) 1) 0=2*(x.val:Int)+0∧std.bits Go.BinOp.or .i64 (std.shl (x.val:Int) 1) 1=2*(x.val:Int)+1) ⟨k,by omega⟩
 rcases hb with rfl |rfl
 ·exact this.1
 ·exact this.2
theorem ZrR{l:List Int}{n i:Nat}(h:i*n+n≤l.length):std.add ((i*n:Nat):Int) (std.min (n:Int) (std.int (std.len (std.sub3 l (i*n) (std.len l-i*n)))))=((i*n+n:Nat):Int):=by
 have t0:(std.sub3 l (i*n) (l.length-i*n)).length=l.length-i*n:=by
  show((l.drop (i*n)).take _).length=_
  rw[List.length_take,List.length_drop];omega
 simp only[ZbB,Zd7,t0,Zgd]
 show _+min _ _=_
 omega
section
variable {C:Ctx}(hC:C.P=Try.prog)(m p q h D:Int)
include hC
theorem ZP6(r:AV)(l0 l1 l2 l3 l4:List Int)(n5:Int)(l6 l7:List Int)(n9 n10 n11 n12 n13:Int)(l14:List Int)(hl:l7.length=4)(hb:Zax l7=true)(h5:0≤n5∧n5≤1000)(h6:l6.length≤1000)
 (hn:Ev C (ZeX m p q h D l0 l1 l2 l3 l4 (n5+4) (l6++[nbI l7 0])) (ZdP m p q h D l0 l1 l2 l3 l4 (n5+4) (l6++[nbI l7 0])) (Zny 49 r)):∀(k j:Nat) (a:Int),j+k=4→0≤a→a<2^j→nbI (l7.drop j) a=nbI l7 0→
 Ev C (ZkP m p q h D l0 l1 l2 l3 l4 n5 l6 l7 4 n9 n10 n11 n12 n13 l14 a j) (ZhC m p q h D l0 l1 l2 l3 l4 n5 l6 l7 4 n9 n10 n11 n12 n13 l14 a j) (Zny 49 r):=by
 intro k
 induction k with
 |zero=>
  intro j a hj h0 h1 e
  rw[List.drop_of_length_le (by omega),nbI]at e
  subst e
  refine Zm8 hC ZdN ZlG ?_
  simp[Zhv,show ¬(j:Int)<4 by omega,AV.bx,Zag]at hn⊢
  exact⟨by omega,by omega,hn⟩
 |succ k ih=>
  intro j a hj h0 h1 e
  have hlt:j<l7.length:=by omega
  have hbj:=Zcn hb j
  rw[Zfk hlt,nbI]at e
  have hp:(2:Int)^(j+1)=2*2^j:=by rw[Int.pow_succ];omega
  have hq:(2:Int)^j≤8:=by
   have:(2:Nat)^j≤2^3:=Nat.pow_le_pow_right (by decide) (by omega)
   exact_mod_cast this
  have i0:=ih (j+1) (2*a+l7.getD j 0) (by omega) (by omega) (by omega) e
  have o:=ZGa (a:=a) ⟨h0,by omega⟩ hbj
  have hs:std.shl a 1=2*a:=by show a*2^(1:Int).toNat=2*a;have:(2:Int)^(1:Int).toNat=2:=rfl;rw[this];omega
  rw[hs]at o
  refine Zm8 hC ZdN ZlG ?_
  simp only[Zhv,hs,Zbu,ZaX,Int.toNat_natCast,o]
  simp[-List.getD_eq_getElem?_getD,show(j:Int)<4 by omega,hl,show j<4 by omega]at i0⊢
  exact⟨by omega,i0⟩
variable (so:List Int)(n d:Nat)(K:RcK m p q h D so n d)
include K
theorem ZQa:∀(k i:Nat) (c:Int) (out:List Int),i+k=d→0≤c→c≤3*i→out.length≤13*i→Ev C (Zhs m p q h D (alL m p q so d) ((i*15:Nat):Int) c out) (ZfH m p q h D (alL m p q so d) ((i*15:Nat):Int) c out) (Zny 49 (match dlR h (alL m p q so d) n k i out c with |none=>.tup [.list (.ints .i64 []), .int .i64 0, .int .i64 27] |some (x,z)=>.tup [.list (.ints .i64 x), .int .i64 z, .int .i64 0])):=by
 have hd:=K.d1
 have hn:=K.hn
 have hn1:=K.n1
 have hb:=K.hb
 have hl:=K.al.1
 have qh:=of_decide_eq_true hb
 intro k
 induction k with
 |zero=>
  intro i c out hi h0 h1 ho
  have t3:¬((i*15:Nat):Int)<(d*15:Nat):=by omega
  refine Zm8 hC ZdN Zfx ?_
  simp only[Zdx,ZBU,Zd7,ZbB,hl,decide_eq_false t3]
  simp[dlR]
  exact⟨_, .same _, .tup ⟨.row _ rfl rfl rfl, .same _ rfl rfl, .same _ rfl rfl,trivial⟩,rfl⟩
 |succ k ih=>
  intro i c out hi h0 h1 ho
  have hid:i<d:=by omega
  have hle:i*15+15≤(alL m p q so d).length:=by rw[hl];omega
  have es:std.sub3 (alL m p q so d) (i*15) 15=paL 15 (alL m p q so d) i:=rfl
  have hch:std.add ((i*15:Nat):Int) (std.min 15 (std.int (std.len (std.sub3 (alL m p q so d) (i*15) (std.len (alL m p q so d)-i*15)))))=((i*15+15:Nat):Int):=ZrR (n:=15) hle
  have hw:=K.wd hid
  have t3:((i*15:Nat):Int)<((alL m p q so d).length:Int):=by omega
  rw[dlR]
  cases hs:(deO h (paL 15 (alL m p q so d) i)).isSome
  ·refine Zm8 hC ZdN Zfx ?_
   have hdl:(deV h (paL 15 (alL m p q so d) i)).length=15:=by
    have:deO h (paL 15 (alL m p q so d) i)=none:=by simpa using hs
    unfold deV;rw[this];rfl
   generalize i*15=j at*
   simp only[Zdx,hch,ZaX,Int.toNat_natCast,es,hw,hs]
   simp[t3,hb,hdl]
   exact⟨by omega,_, .same _, .tup ⟨.nil _ rfl, .same _ rfl rfl, .same _ rfl rfl,trivial⟩,rfl⟩
  ·obtain⟨w1,w2,w3⟩:=K.de hid hs
   have i0:=ih (i+1) (c+deN h (paL 15 (alL m p q so d) i)) (out++(deV h (paL 15 (alL m p q so d) i)).take n) (by omega) (by omega) (by omega) (by rw[List.length_append,List.length_take];omega)
   have t5:(15-2*h).toNat=n:=by omega
   have e3:std.sub3 (deV h (paL 15 (alL m p q so d) i)) 0 (n-0)=(deV h (paL 15 (alL m p q so d) i)).take n:=rfl
   have t6:(((i+1)*15:Nat):Int)=((i*15:Nat):Int)+15:=by omega
   have hj:i*15≤60:=by omega
   rw[t6]at i0
   refine Zm8 hC ZdN Zfx ?_
   generalize i*15=j at*
   simp only[Zdx,hch,ZaX,Zp2,Zp5,Int.toNat_natCast,es,hw,hs,t5,e3]
   simp[t3,hb,w1]at i0⊢
   exact⟨by omega,by omega,by omega,i0⟩
theorem ZPB(l0 l1 l2 l3:List Int):∀(k i:Nat),i+k=15*d→Ev C (ZeX m p q h D l0 l1 l2 l3 (blI m p q so) ((i*4:Nat):Int) (neL (blI m p q so) i)) (ZdP m p q h D l0 l1 l2 l3 (blI m p q so) ((i*4:Nat):Int) (neL (blI m p q so) i)) (Zny 49 (match dlO m p q h D so with |none=>.tup [.list (.ints .i64 []), .int .i64 0, .int .i64 27] |some (x,z)=>.tup [.list (.ints .i64 x), .int .i64 z, .int .i64 0])):=by
 have hd:=K.d1
 have hD:=K.hd
 have hl:=K.bl
 intro k
 induction k with
 |zero=>
  intro i hi
  have:i=15*d:=by omega
  subst this
  have i0:=ZQa hC m p q h D so n d K d 0 0 [] (by omega) (by omega) (by omega) (by simp)
  have e1:((15*d:Nat):Int).tdiv (d:Int)=15:=by
   have:((15*d:Nat):Int).tdiv (d:Int)=((15*d/d:Nat):Int):=rfl
   rw[this,Nat.mul_div_cancel _ (by omega)];rfl
  have rc:rcB (neL (blI m p q so) (15*d)) 15=true:=by
   refine decide_eq_true ?_
   rw[Zer]
   show _∧_∧_∧_∧15*d/15*15=_
   omega
  have t3:¬((15*d*4:Nat):Int)<(60*d:Nat):=by omega
  rw[K.dl]
  rw[hD]at i0
  refine Zm8 hC ZdN Zkj ?_
  simp only[ZfI,ZBU,Zd7,ZbB,hl,decide_eq_false t3,Zer,ZvY,hD,e1,rc]
  simp[alL]at i0⊢
  exact⟨by omega,i0⟩
 |succ k ih=>
  intro i hi
  have i0:=ih (i+1) (by omega)
  have es:std.sub3 (blI m p q so) (i*4) (i*4+4-i*4)=paL 4 (blI m p q so) i:=ZpH _ rfl rfl
  have hpl:(paL 4 (blI m p q so) i).length=4:=ZcG (D:=15*d) (by rw[hl];omega) (by omega)
  have hpb:=ZmQ (n:=4) K.bb i
  have hle:i*4+4≤(blI m p q so).length:=by omega
  have hch:std.add ((i*4:Nat):Int) (std.min 4 (std.int (std.len (std.sub3 (blI m p q so) (i*4) (std.len (blI m p q so)-i*4)))))=((i*4+4:Nat):Int):=ZrR (n:=4) hle
  have t3:((i*4:Nat):Int)<((blI m p q so).length:Int):=by omega
  have t4:(((i+1)*4:Nat):Int)=((i*4:Nat):Int)+4:=by omega
  rw[ZD5,t4]at i0
  have nl:=Zer (blI m p q so) i
  have i1:=fun n9 n10 n11 n12 n13 l14=>ZP6 hC m p q h D _ l0 l1 l2 l3 (blI m p q so) ((i*4:Nat):Int) (neL (blI m p q so) i) (paL 4 (blI m p q so) i) n9 n10 n11 n12 n13 l14 hpl hpb (by omega) (by omega) i0 4 0 0 (by omega) (by omega) (by decide) (by rw[List.drop_zero])
  refine Zm8 hC ZdN Zkj ?_
  generalize i*4=j at*
  simp only[ZfI,hch,ZaX,Int.toNat_natCast,es]
  simp only[ZbB,hpl,Zd7]
  simp[t3]at i1⊢
  refine⟨by omega,?_⟩
  exact i1 _ _ _ _ _ _
end
def reE(m p q h D:Int)(so:List Int):Int:=ZaD [lkE m p q h D,Zam (decide ((so.length:Int)=2*(4*D*15+m))) 10,ZaP so (-7) 7,if(dlO m p q h D so).isSome=true then 0 else 27]
@[irreducible] def reV (m p q h D:Int) (so:List Int):List Int:=if reE m p q h D so=0 then dlV m p q h D so else []
@[irreducible] def reN (m p q h D:Int) (so:List Int):Int:=if reE m p q h D so=0 then dlN m p q h D so else 0
theorem Zw9(m p q h D:Int)(so:List Int)(hl:so.length≤1000000):Zai Try.prog 49 [.agg (.gen [.int .i64 m, .int .i64 p, .int .i64 q, .int .i64 h, .int .i64 D]), .list (.ints .i64 so)] (.tup [.list (.ints .i64 (reV m p q h D so)), .int .i64 (reN m p q h D so), .int .i64 (reE m p q h D so)]) Zsv:=by
 refine Zvw (ZE4 m p q h D so) fun C hC=>Zm8 hC ZdN ZLx ?_
 by_cases h1:lkE m p q h D=0
 ·obtain⟨hv,hb,q1,q2,q3,q4⟩:=Zn9 h1
  have hm:=(Zap hv).1
  by_cases h2:(so.length:Int)=2*(D*15*4+m)
  ·have h2':(so.length:Int)=2*(4*D*15+m):=by omega
   by_cases h3:ZaP so (-7) 7=0
   ·obtain⟨n,d,K⟩:=ZBh (m:=m) (p:=p) (q:=q) (h:=h) (D:=D) (so:=so) (by unfold ZyO;simp[h1,h2',h3])
    have i:=ZPB hC m p q h D so n d K (blI m p q so) (blI m p q so) (blI m p q so) (blI m p q so) (15*d) 0 (by omega)
    have ok:=K.ok
    have ev:(AV.tup [.list (.ints .i64 (reV m p q h D so)), .int .i64 (reN m p q h D so), .int .i64 (reE m p q h D so)])=(match dlO m p q h D so with |none=>.tup [.list (.ints .i64 []), .int .i64 0, .int .i64 27] |some (x,z)=>.tup [.list (.ints .i64 x), .int .i64 z, .int .i64 0]):=by
     unfold reV reN dlV dlN reE
     cases dlO m p q h D so with
     |none=>simp[ZaD,Zam,h1,h2',h3]
     |some x=>simp[ZaD,Zam,h1,h2',h3]
    rw[ev]
    simp[Zwx,h1,h2,h3,Zam,ZaD,hl,ok,neL,AV.bx,Zag]at i⊢
    exact⟨by omega,i⟩
   ·have e0:reE m p q h D so=ZaP so (-7) 7:=by simp[reE,ZaD,Zam,h1,h2',h3]
    have ev:reV m p q h D so=[]:=by unfold reV;rw[if_neg (by rw[e0];exact h3)]
    have en:reN m p q h D so=0:=by unfold reN;rw[if_neg (by rw[e0];exact h3)]
    simp[Zwx,h1,h2,h3,Zam,ZaD,hl,ev,en,e0,AV.bx,Zag]
    exact⟨by omega,_, .same _, .tup ⟨.nil _ rfl, .same _ rfl rfl, .same _ rfl rfl,trivial⟩,rfl⟩
  ·have h2':¬(so.length:Int)=2*(4*D*15+m):=by omega
   have e0:reE m p q h D so=10:=by simp[reE,ZaD,Zam,h1,h2']
   have ev:reV m p q h D so=[]:=by unfold reV;rw[if_neg (by rw[e0];decide)]
   have en:reN m p q h D so=0:=by unfold reN;rw[if_neg (by rw[e0];decide)]
   simp[Zwx,h1,h2,Zam,ZaD,hl,ev,en,e0,AV.bx,Zag]
   exact⟨by omega,_, .same _, .tup ⟨.nil _ rfl, .same _ rfl rfl, .same _ rfl rfl,trivial⟩,rfl⟩
 ·have e0:reE m p q h D so=lkE m p q h D:=by simp[reE,ZaD,h1]
  have ev:reV m p q h D so=[]:=by unfold reV;rw[if_neg (by rw[e0];exact h1)]
  have en:reN m p q h D so=0:=by unfold reN;rw[if_neg (by rw[e0];exact h1)]
  simp[Zwx,h1,ev,en,e0]
  exact⟨_, .same _, .tup ⟨.nil _ rfl, .same _ rfl rfl, .same _ rfl rfl,trivial⟩,rfl⟩
def k49:Ctr:=⟨49,0,fun _ a=>match a with |[.agg (.gen [.int .i64 m, .int .i64 p, .int .i64 q, .int .i64 h, .int .i64 D]), .list (.ints .i64 so)]=>some (decide (so.length≤1000000), .tup [.list (.ints .i64 (reV m p q h D so)), .int .i64 (reN m p q h D so), .int .i64 (reE m p q h D so)],Zsv) |_=>none⟩
theorem ZF2:k49.OK Try.prog:=fun pa args r fr h=>by
 simp only[k49]at h
 split at h
 ·simp only[Option.some.injEq,Prod.mk.injEq,decide_eq_true_eq]at h
  obtain⟨h0,rfl,rfl⟩:=h
  exact Zw9 _ _ _ _ _ _ h0
 ·cases h
def Kq:List Ctr:=[k49]++Kp
theorem Zqo:Zay Try.prog Kq:=⟨ZF2,ZMM⟩
end Go.Proofs.Ytklbmkllepkjcaa
/- Paths of functions, printed by the explorer (Gx). No condition. -/
namespace Go.Proofs.Ytklbmkllepkjcaa
set_option maxRecDepth 100000
set_option linter.unusedVariables false
def ZIO(m p q h D:Int)(d a:List Int)(z:Int):AFrame:={ fn:=11,N:=266,env:=[(0,AV.agg (Row.gen [.int .i64 m, .int .i64 p, .int .i64 q, .int .i64 h, .int .i64 D])),(1,AV.list (.ints .i64 d)),(2,AV.agg (Row.gen [.list (.ints .i64 a), .int .i64 z]))],todo:=[.code a11.code],defs:=[],rnd:=none,ret:=false,res:=[ARes.tmp 6] }
def ZP4(m p q h D:Int)(d a:List Int)(z:Int):List AFrame:=[(ZIO m p q h D d a z)]
theorem ZDe(m p q h D:Int)(d a:List Int)(z:Int):Zaq tab 11 [AV.agg (Row.gen [.int .i64 m, .int .i64 p, .int .i64 q, .int .i64 h, .int .i64 D]),AV.list (.ints .i64 d),AV.agg (Row.gen [.list (.ints .i64 a), .int .i64 z])]=some (ZIO m p q h D d a z):=rfl
def ZkI(m p q h D:Int)(d a:List Int)(z:Int)(l0:List Int)(n1 n2 n3:Int)(l4:List Int):List AFrame:=[{ fn:=11,N:=266,env:=[(1,AV.list (.ints .i64 d)),(3,AV.ptr 11004 0 0 0),(5,AV.ptr 11006 0 0 0),(7,AV.list (.ints .i64 l0)),(9,AV.int .i64 n1),(11,AV.row 11115 0),(12,AV.int .i64 n2),(13,AV.int .i64 n3)],todo:=.code (ACode.gh [] ZJm)::ZNH,defs:=[],rnd:=none,ret:=false,res:=[ARes.tmp 6] }]
def ZhV(m p q h D:Int)(d a:List Int)(z:Int)(l0:List Int)(n1 n2 n3:Int)(l4:List Int):Zaa:=[(11004,{ base:=0,blks:=[Blk.row 78 5 (Row.gen [AV.agg (Row.gen [AV.int .i64 m,AV.int .i64 p,AV.int .i64 q,AV.int .i64 h,AV.int .i64 D])])] }),(11006,{ base:=0,blks:=[Blk.row 47 2 (Row.gen [AV.agg (Row.gen [AV.list (.ints .i64 a),AV.int .i64 z])])] }),(11115,{ base:=0,blks:=[Blk.row 3 1 (.ints .i64 l4)] })]
abbrev Zhb(m p q h D:Int)(d a:List Int)(z:Int)(l0:List Int)(n1 n2 n3:Int)(l4:List Int):List AFrame×Zaa:=(ZkI m p q h D d a z l0 n1 n2 n3 l4,ZhV m p q h D d a z l0 n1 n2 n3 l4)
def Zkq(m p q h D:Int)(d l5:List Int)(n6 n7:Int)(l8 l9 l10:List Int)(n11:Int):List AFrame:=[{ fn:=11,N:=266,env:=[(1,AV.list (.ints .i64 d)),(3,AV.ptr 11004 0 0 0),(15,AV.list (.ints .i64 l5)),(16,AV.int .i64 n6),(17,AV.int .i64 n7),(18,AV.list (.ints .i64 l8)),(21,AV.list (.ints .i64 l9)),(24,AV.row 11180 0),(25,AV.int .i64 n11)],todo:=.code (ACode.gh [] ZI3)::ZNd,defs:=[],rnd:=none,ret:=false,res:=[ARes.tmp 6] }]
def Zh8(m p q h D:Int)(d l5:List Int)(n6 n7:Int)(l8 l9 l10:List Int)(n11:Int):Zaa:=[(11004,{ base:=0,blks:=[Blk.row 78 5 (Row.gen [AV.agg (Row.gen [AV.int .i64 m,AV.int .i64 p,AV.int .i64 q,AV.int .i64 h,AV.int .i64 D])])] }),(11180,{ base:=0,blks:=[Blk.row 3 1 (.ints .i64 l10)] })]
abbrev Zg5(m p q h D:Int)(d l5:List Int)(n6 n7:Int)(l8 l9 l10:List Int)(n11:Int):List AFrame×Zaa:=(Zkq m p q h D d l5 n6 n7 l8 l9 l10 n11,Zh8 m p q h D d l5 n6 n7 l8 l9 l10 n11)
def ZjI(m p q h D:Int)(d l5:List Int)(n6 n7:Int)(l10:List Int)(n12 n13:Int):List AFrame:=[{ fn:=11,N:=266,env:=[(1,AV.list (.ints .i64 d)),(3,AV.ptr 11004 0 0 0),(15,AV.list (.ints .i64 l5)),(16,AV.int .i64 n6),(17,AV.int .i64 n7),(24,AV.row 11180 0),(26,AV.int .i64 n12),(27,AV.int .i64 n13)],todo:=.code (ACode.gh [] ZGc)::ZLO,defs:=[],rnd:=none,ret:=false,res:=[ARes.tmp 6] }]
def Zhx(m p q h D:Int)(d l5:List Int)(n6 n7:Int)(l10:List Int)(n12 n13:Int):Zaa:=[(11004,{ base:=0,blks:=[Blk.row 78 5 (Row.gen [AV.agg (Row.gen [AV.int .i64 m,AV.int .i64 p,AV.int .i64 q,AV.int .i64 h,AV.int .i64 D])])] }),(11180,{ base:=0,blks:=[Blk.row 3 1 (.ints .i64 l10)] })]
abbrev Zlz(m p q h D:Int)(d l5:List Int)(n6 n7:Int)(l10:List Int)(n12 n13:Int):List AFrame×Zaa:=(ZjI m p q h D d l5 n6 n7 l10 n12 n13,Zhx m p q h D d l5 n6 n7 l10 n12 n13)
def Zpa(A:Ar)(K:KT)(F:FT)(m p q h D:Int)(d a:List Int)(z:Int):Prop:=rB [!A.not true] (bB (A.not (A.eq (lkE m p q h D) 0)) (F (AV.bool true) (none)) (rB [decide (lkE m p q h D=0)] (bB (A.not (A.eq (A.int (A.len d)) (daI h D))) (F (AV.bool true) (none)) (rB [decide (List.length d≤1000000)] (bB (A.not (A.eq (ZaP d 0 15) 0)) (F (AV.bool true) (none)) (bB (A.lt 10 (A.int (A.len a))) (F (AV.bool true) (none)) (bB (A.not (Zal z 1 7)) (F (AV.bool true) (none)) (rB [decide (List.length d≤1000000),decide (List.length d≤1000000)] (bB (A.not (A.eq (snE m p q h D d) 0)) (False) (bB (A.not (A.eq (ZaB m p q) 0)) (False) (rB [decide (lkE m p q h D=0)] (bB (A.not (A.eq (A.int (A.len (snV m p q h D d))) (cnI m D))) (False) (rB [decide (List.length (snV m p q h D d)≤1000000)] (bB (A.not (Zax (snV m p q h D d))) (False) (K (Zhb (m) (p) (q) (h) (D) (d) (a) (z) (snV m p q h D d) (frI m p q) (0) (0) ([])))))))))))))))))
theorem ZMi{A:Ar}{K:KT}{F:FT}{M:MT}{m p q h D:Int}{d a:List Int}{z:Int} :Zaj A tab Kq 11 K F M (.run 12 (.fy (.run 8 (.tf (.ty (.ty (.ty (.ty (.ty (.run 1 (.ty (.ty (.ty (.ty (.run 1 (.ty (.ty (.ty (.ty (.ty (.run 1 (.ty (.ty (.ty (.ty (.ty (.run 2 (.ty (.run 5 (.fn)))))))))))))))))))))))))) (.fy (.fy (.fy (.fy (.fy (.run 1 (.tf (.ty (.ty (.ty (.run 1 (.ty (.ty (.ty (.ty (.ty (.run 1 (.ty (.ty (.ty (.ty (.ty (.run 2 (.ty (.run 5 (.fn))))))))))))))))))) (.fy (.fy (.fy (.run 1 (.tf (.ty (.ty (.ty (.ty (.run 1 (.ty (.ty (.ty (.ty (.ty (.run 2 (.ty (.run 5 (.fn)))))))))))))) (.fy (.fy (.fy (.fy (.run 1 (.tf (.ty (.ty (.ty (.ty (.run 2 (.ty (.run 5 (.fn)))))))) (.fy (.fy (.fy (.fy (.run 2 (.tf (.run 5 (.fn)) (.run 22 (.tf (.ty (.ty (.run 1 (.ty (.ty (.ty (.ty (.ty (.ty (.run 1 (.ty (.ty (.ty (.ty (.run 2 (.ty (.run 5 (.no)))))))))))))))))) (.fy (.fy (.run 1 (.tf (.ty (.ty (.ty (.ty (.ty (.run 1 (.ty (.ty (.ty (.ty (.run 2 (.ty (.run 5 (.no)))))))))))))) (.fy (.fy (.fy (.fy (.fy (.run 1 (.tf (.ty (.ty (.ty (.run 2 (.ty (.run 5 (.no))))))) (.fy (.fy (.fy (.run 2 (.tf (.run 5 (.no)) (.run 18 (.hd)))))))))))))))))))))))))))))))))))))))))))))))) (ZP4 m p q h D d a z) []=Zpa A K F m p q h D d a z:=by kernel_rfl
def Zc9(A:Ar)(K:KT)(F:FT)(m p q h D:Int)(d a:List Int)(z:Int)(l0:List Int)(n1 n2 n3:Int)(l4:List Int):Prop:=bB (A.lt n3 (A.int (A.len l0))) (rB [decide (List.length a≤1000000),A.inR .i64 (A.mul z (A.sub 1 (A.mul 2 (A.nth l0 (A.nat n3))))),A.inR .i64 (A.sub 1 (A.mul 2 (A.nth l0 (A.nat n3)))),A.inR .i64 (A.mul 2 (A.nth l0 (A.nat n3))),Zae (Zae (A.le 0 n3) (Nat.blt (A.nat n3) (A.len l0))) true] (bB (decide (n3∈a)) (rB [A.inR .i64 (A.add n3 1),Nat.ble (A.len l4+A.len [A.neg (A.mul z (A.sub 1 (A.mul 2 (A.nth l0 (A.nat n3)))))]) 4294967296,List.all [AV.int .i64 (A.neg (A.mul z (A.sub 1 (A.mul 2 (A.nth l0 (A.nat n3))))))] fun x=>AV.bx x&&Nat.beq (Zag A x) 1,A.inR .i64 (A.add n2 1),A.inR .i64 (A.neg (A.mul z (A.sub 1 (A.mul 2 (A.nth l0 (A.nat n3))))))] (K (Zhb (m) (p) (q) (h) (D) (d) (a) (z) (l0) (n1) (A.add n2 1) (A.add n3 1) (A.app l4 [A.neg (A.mul z (A.sub 1 (A.mul 2 (A.nth l0 (A.nat n3)))))])))) (rB [A.inR .i64 (A.add n3 1),Nat.ble (A.len l4+A.len [A.mul z (A.sub 1 (A.mul 2 (A.nth l0 (A.nat n3))))]) 4294967296,List.all [AV.int .i64 (A.mul z (A.sub 1 (A.mul 2 (A.nth l0 (A.nat n3)))))] fun x=>AV.bx x&&Nat.beq (Zag A x) 1] (K (Zhb (m) (p) (q) (h) (D) (d) (a) (z) (l0) (n1) (n2) (A.add n3 1) (A.app l4 [A.mul z (A.sub 1 (A.mul 2 (A.nth l0 (A.nat n3))))])))))) (rB [A.inR .i64 (A.mul 2 n2),decide (List.length l4≤1000000),decide (List.length l4≤1000000)] (bB (A.lt (A.mul 2 n2) n1) (bB (A.eq (reE m p q h D l4) 0) (rB [decide (List.length (reV m p q h D l4)≤1000000)] (bB (decide (reV m p q h D l4=d)) (F (AV.bool (A.eq (reN m p q h D l4) 0)) (none)) (False))) (False)) (rB [decide (List.length (List.map (fun x=>1-2*x) l0)≤1000000),decide (List.length l0≤1000000∧Zax l0=true),decide (List.length l4≤1000000),decide (List.length l4≤1000000)] (bB (A.not (A.eq (cdW m p q l4) 0)) (False) (bB (A.not (A.eq (cdW m p q (List.map (fun x=>1-2*x) l0)) 0)) (False) (bB (A.not (A.eq (A.int (A.len (blW m p q l4))) (A.int (A.len (blW m p q (List.map (fun x=>1-2*x) l0)))))) (False) (rB [A.inR .i64 (A.mul 60 D)] (bB (A.not (A.eq (A.int (A.len (blW m p q (List.map (fun x=>1-2*x) l0)))) (A.mul 60 D))) (False) (rB [Zae (A.le 0 D) (A.le D 4294967296)] (K (Zg5 (m) (p) (q) (h) (D) (d) (reV m p q h D l4) (reN m p q h D l4) (reE m p q h D l4) (blW m p q l4) (blW m p q (List.map (fun x=>1-2*x) l0)) (A.rep (A.nat D) 0) (0))))))))))))
theorem Zk9{A:Ar}{K:KT}{F:FT}{M:MT}{m p q h D:Int}{d a:List Int}{z:Int}{l0:List Int}{n1 n2 n3:Int}{l4:List Int} :Zaj A tab Kq 11 K F M (.run 9 (.tf (.run 14 (.tf (.run 23 (.hd)) (.run 16 (.hd)))) (.run 12 (.tf (.run 5 (.tf (.ty (.ty (.ty (.run 1 (.tf (.ty (.ty (.run 4 (.fn)))) (.fy (.fy (.run 4 (.no))))))))) (.fy (.fy (.fy (.run 1 (.fy (.fy (.fy (.run 4 (.no))))))))))) (.run 13 (.tf (.ty (.ty (.run 1 (.ty (.ty (.ty (.ty (.ty (.ty (.run 1 (.ty (.ty (.ty (.ty (.ty (.ty (.ty (.run 2 (.ty (.run 5 (.no))))))))))))))))))))) (.fy (.fy (.run 1 (.tf (.ty (.ty (.ty (.ty (.ty (.run 1 (.ty (.ty (.ty (.ty (.ty (.ty (.ty (.run 2 (.ty (.run 5 (.no))))))))))))))))) (.fy (.fy (.fy (.fy (.fy (.run 1 (.tf (.ty (.ty (.ty (.ty (.ty (.ty (.run 2 (.ty (.run 5 (.no)))))))))) (.fy (.fy (.fy (.fy (.fy (.fy (.run 2 (.tf (.run 5 (.no)) (.run 16 (.hd))))))))))))))))))))))))))) (ZkI m p q h D d a z l0 n1 n2 n3 l4) (ZhV m p q h D d a z l0 n1 n2 n3 l4)=Zc9 A K F m p q h D d a z l0 n1 n2 n3 l4:=by kernel_rfl
def Zfj(A:Ar)(K:KT)(F:FT)(m p q h D:Int)(d l5:List Int)(n6 n7:Int)(l8 l9 l10:List Int)(n11:Int):Prop:=rB [A.inR .i64 (A.mul 15 D)] (bB (A.lt n11 (A.mul 15 D)) (rB [decide (List.length (A.sub3 l8 (A.nat (A.mul 4 n11)) (A.nat (A.add (A.mul 4 n11) 4)-A.nat (A.mul 4 n11)))≤1000000),Zae (Zae (A.le 0 (A.mul 4 n11)) (A.le 0 (A.add (A.mul 4 n11) 4))) (Zae (Zae (Nat.ble (A.nat (A.mul 4 n11)) (A.nat (A.add (A.mul 4 n11) 4))) (Nat.ble (A.nat (A.add (A.mul 4 n11) 4)) (A.len l9))) true),A.inR .i64 (A.add (A.mul 4 n11) 4),A.inR .i64 (A.mul 4 n11),A.inR .i64 (A.mul 4 n11),Zae (Zae (A.le 0 (A.mul 4 n11)) (A.le 0 (A.add (A.mul 4 n11) 4))) (Zae (Zae (Nat.ble (A.nat (A.mul 4 n11)) (A.nat (A.add (A.mul 4 n11) 4))) (Nat.ble (A.nat (A.add (A.mul 4 n11) 4)) (A.len l8))) true),A.inR .i64 (A.add (A.mul 4 n11) 4),A.inR .i64 (A.mul 4 n11),A.inR .i64 (A.mul 4 n11)] (bB (A.not (decide (A.sub3 l8 (A.nat (A.mul 4 n11)) (A.nat (A.add (A.mul 4 n11) 4)-A.nat (A.mul 4 n11))=A.sub3 l9 (A.nat (A.mul 4 n11)) (A.nat (A.add (A.mul 4 n11) 4)-A.nat (A.mul 4 n11))))) (rB [A.inR .i64 (A.add n11 1),Zae (Nat.blt (A.nat (A.rem n11 D)) (A.len l10)) true,Zae (A.le 0 (A.rem n11 D)) (Nat.blt (A.nat (A.rem n11 D)) (A.len l10)),A.inR .i64 (A.add (A.nth l10 (A.nat (A.rem n11 D))) 1),Zae (Nat.blt (A.nat (A.rem n11 D)) (A.len l10)) true,Zae (A.le 0 (A.rem n11 D)) (Nat.blt (A.nat (A.rem n11 D)) (A.len l10)),A.not (A.eq D 0),A.not (A.eq D 0)] (K (Zg5 (m) (p) (q) (h) (D) (d) (l5) (n6) (n7) (l8) (l9) (A.set l10 (A.nat (A.rem n11 D)) (A.add (A.nth l10 (A.nat (A.rem n11 D))) 1)) (A.add n11 1)))) (rB [A.inR .i64 (A.add n11 1)] (K (Zg5 (m) (p) (q) (h) (D) (d) (l5) (n6) (n7) (l8) (l9) (l10) (A.add n11 1)))))) (K (Zlz (m) (p) (q) (h) (D) (d) (l5) (n6) (n7) (l10) (0) (0))))
theorem Zmc{A:Ar}{K:KT}{F:FT}{M:MT}{m p q h D:Int}{d l5:List Int}{n6 n7:Int}{l8 l9 l10:List Int}{n11:Int} :Zaj A tab Kq 11 K F M (.run 10 (.tf (.run 6 (.tf (.run 9 (.hd)) (.run 9 (.hd)))) (.run 13 (.hd)))) (Zkq m p q h D d l5 n6 n7 l8 l9 l10 n11) (Zh8 m p q h D d l5 n6 n7 l8 l9 l10 n11)=Zfj A K F m p q h D d l5 n6 n7 l8 l9 l10 n11:=by kernel_rfl
def Zdh(A:Ar)(K:KT)(F:FT)(m p q h D:Int)(d l5:List Int)(n6 n7:Int)(l10:List Int)(n12 n13:Int):Prop:=bB (A.lt n13 D) (rB [Zae (Nat.blt (A.nat n13) (A.len l10)) true,Zae (A.le 0 n13) (Nat.blt (A.nat n13) (A.len l10))] (bB (A.lt h (A.nth l10 (A.nat n13))) (bB (A.eq n7 27) (bB (A.eq (A.int (A.len l5)) 0) (F (AV.bool true) (none)) (rB [!A.eq n7 0] (False))) (bB (A.eq n7 0) (F (AV.bool (A.eq (A.int (A.len l5)) (A.int (A.len d)))) (none)) (False))) (rB [A.inR .i64 (A.add n13 1),A.inR .i64 (A.add n12 (A.nth l10 (A.nat n13))),Zae (Nat.blt (A.nat n13) (A.len l10)) true,Zae (A.le 0 n13) (Nat.blt (A.nat n13) (A.len l10))] (K (Zlz (m) (p) (q) (h) (D) (d) (l5) (n6) (n7) (l10) (A.add n12 (A.nth l10 (A.nat n13))) (A.add n13 1)))))) (bB (A.eq n7 0) (rB [decide (List.length l5≤1000000)] (bB (decide (l5=d)) (F (AV.bool (A.eq n6 n12)) (none)) (False))) (False))
theorem Zlh{A:Ar}{K:KT}{F:FT}{M:MT}{m p q h D:Int}{d l5:List Int}{n6 n7:Int}{l10:List Int}{n12 n13:Int} :Zaj A tab Kq 11 K F M (.run 9 (.tf (.run 7 (.tf (.run 5 (.tf (.ty (.ty (.ty (.run 1 (.tf (.ty (.ty (.run 5 (.ty (.ty (.run 4 (.fn))))))) (.fy (.fy (.fy (.fy (.fy (.fy (.fy (.alt [false,false] (.fy (.run 4 (.no))) (.no)))))))))))))) (.fy (.fy (.fy (.run 1 (.fy (.fy (.fy (.tf (.ty (.ty (.ty (.ty (.alt [false,true] (.fy (.run 4 (.fn))) (.no)))))) (.fy (.fy (.fy (.fy (.alt [false,false] (.fy (.run 4 (.no))) (.no)))))))))))))))) (.run 18 (.hd)))) (.run 6 (.tf (.ty (.ty (.ty (.run 1 (.tf (.ty (.ty (.ty (.run 4 (.fn))))) (.fy (.fy (.fy (.run 4 (.no)))))))))) (.fy (.fy (.fy (.run 1 (.fy (.fy (.fy (.fy (.run 4 (.no)))))))))))))) (ZjI m p q h D d l5 n6 n7 l10 n12 n13) (Zhx m p q h D d l5 n6 n7 l10 n12 n13)=Zdh A K F m p q h D d l5 n6 n7 l10 n12 n13:=by kernel_rfl
end Go.Proofs.Ytklbmkllepkjcaa
/- Through the link: what is sent comes back. No condition. -/
namespace Go.Proofs.Ytklbmkllepkjcaa
theorem Zwb{l:List Int}{j:Nat}(h:j<l.length):l.getD j 0=l[j]:=by rw[List.getD_eq_getElem?_getD,List.getElem?_eq_getElem h];rfl
theorem ZEF{a b:List Int}(hl:a.length=b.length)(h:∀j,j<a.length→a.getD j 0=b.getD j 0):a=b:=
 List.ext_getElem hl fun j h1 h2=>by rw[←Zwb h1,←Zwb h2];exact h j h1
theorem Zto{l:List Int}{R j:Nat}(h:j<l.length):(tS l R).getD j 0=tE l R j:=by simp[tS,h]
theorem ZuD{l:List Int}{d k j:Nat}(hl:l.length=15*d)(hk:k<d)(hj:j<15):(paL 15 (tS l 15) k).getD j 0=l.getD (j*d+k) 0:=by
 rw[Zp4 hj,Zto (by rw[hl];omega)]
 unfold tE
 rw[hl,show 15*d/15=d by omega,show(k*15+j)%15=j by omega,show(k*15+j)/15=k by omega]
theorem ZCI(l:List Int){R q:Nat}(h:q*R=l.length)(hR:0<R):tS (tS l R) q=l:=by
 have hq:l.length/R=q:=by rw[←h];exact Nat.mul_div_cancel q hR
 refine ZEF (by rw[ZdW,ZdW]) fun j h1=>?_
 rw[ZdW,ZdW]at h1
 have h4:0<q:=by
  rcases Nat.eq_zero_or_pos q with e |e
  ·rw[e]at h;omega
  ·exact e
 have h3:j/q<R:=(Nat.div_lt_iff_lt_mul h4).2 (by rw[Nat.mul_comm];omega)
 have hRq:l.length/q=R:=by rw[←h];exact Nat.mul_div_cancel_left R h4
 rw[Zto (by rw[ZdW];exact h1)]
 unfold tE
 rw[ZdW,hRq]
 have hm:j%q<q:=Nat.mod_lt j h4
 have h5:j%q*R+j/q<l.length:=by
  have:=Nat.mul_le_mul_right R (show j%q+1≤q from hm)
  rw[Nat.add_mul,Nat.one_mul,h]at this;omega
 rw[Zto h5]
 unfold tE
 rw[hq]
 have e2:(j%q*R+j/q)%R=j/q:=by rw[Nat.mul_comm,Nat.mul_add_mod];exact Nat.mod_eq_of_lt h3
 have e3:(j%q*R+j/q)/R=j%q:=by rw[Nat.mul_comm,Nat.mul_add_div hR,Nat.div_eq_of_lt h3];rfl
 rw[e2,e3,show j/q*q+j%q=j by rw[Nat.mul_comm];exact Nat.div_add_mod j q]
theorem ZNB{x:Int}(h:0≤x∧x≤15):nbI (b4L x) 0=x:=by
 obtain⟨k,rfl⟩:=Int.eq_ofNat_of_zero_le h.1
 exact(by decide:∀a:Fin 16,nbI (b4L (a.val:Int)) 0=(a.val:Int)) ⟨k,by omega⟩
theorem ZIf:∀(l:List Int) (i:Nat),i<l.length→paL 4 (biL l) i=b4L (l.getD i 0)
 |[],_,h=>by simp at h
 |x::l,0,_=>by
  unfold paL
  rw[Nat.zero_mul,List.drop_zero,biL]
  rfl
 |x::l,i+1,h=>by
  have:=ZIf l i (by simpa using h)
  unfold paL at*
  rw[biL,show(i+1)*4=4+i*4 by omega,←List.drop_drop]
  have e:(b4L x++biL l).drop 4=biL l:=rfl
  rw[e,this];rfl
theorem Zu1{bs:List Int}{k i:Nat}(h:i<k):(neL bs k).getD i 0=nbI (paL 4 bs i) 0:=by simp[neL,h]
theorem ZMV{l:List Int}{k:Nat}(hr:ZaP l 0 15=0)(hk:l.length=k):neL (biL l) k=l:=by
 refine ZEF (by rw[Zer,hk]) fun j h1=>?_
 rw[Zer]at h1
 rw[Zu1 h1,ZIf l j (by omega),ZNB (ZrA hr (by omega) j)]
theorem ZHI:∀ {a b:List Int},a.length=4→b.length=4→Zax a=true→Zax b=true→(nbI a 0=nbI b 0↔a=b)
 |[a0,a1,a2,a3],[c0,c1,c2,c3],_,_,ha,hb=>by
  have h0:a0=0∨a0=1:=Zcn ha 0
  have h1:a1=0∨a1=1:=Zcn ha 1
  have h2:a2=0∨a2=1:=Zcn ha 2
  have h3:a3=0∨a3=1:=Zcn ha 3
  have g0:c0=0∨c0=1:=Zcn hb 0
  have g1:c1=0∨c1=1:=Zcn hb 1
  have g2:c2=0∨c2=1:=Zcn hb 2
  have g3:c3=0∨c3=1:=Zcn hb 3
  simp only[nbI,List.cons.injEq,and_true]
  omega
theorem ZJv{h D:Int}{l:List Int}{n d:Nat}(K:LnK h D l n d):∀(t:Nat),t≤d→∀k,k<t→paL 15 (woL h n l t) k=enW h (paL n l k)
 |0,_,_,hk=>by omega
 |t+1,ht,k,hk=>by
  obtain⟨a,_⟩:=K.wo t (by omega)
  unfold paL
  rw[woL]
  by_cases e:k=t
  ·subst e
   rw[show k*15=(woL h n l k).length by rw[a];omega,List.drop_left,List.take_of_length_le]
   ·rfl
   ·exact Nat.le_of_eq (K.en (by omega)).1
  ·have:=ZJv K t (by omega) k (by omega)
   unfold paL at this
   rw[List.drop_append_of_le_length (by rw[a];omega),List.take_append_of_le_length (by rw[List.length_drop,a];omega)]
   exact this
theorem ZLL{h:Int}{d:List Int}(g:daB h d=true):(enW h d).take d.length=d:=by
 obtain⟨g1,g2,g3⟩:=ZnB g
 have hl:=(okw_iff.1 (Zwr g).1).1
 have hp:=ZjF (ZiJ (ZoJ g)).2.2.2.1
 refine ZEF (by rw[List.length_take,hl];omega) fun i h1=>?_
 rw[List.length_take]at h1
 have e:=ZIo (h:=h) (w:=Zo1 d) hp (i:=i) (fun a=>by
  unfold erT at a
  obtain⟨k,_,hk⟩:=List.mem_map.1 a
  omega)
 have e2:(enW h d).getD i 0=(Zo1 d).getD i 0:=e
 unfold Zo1 at e2
 rw[ZqU,if_pos (by omega)]at e2
 rw[List.getD_eq_getElem?_getD,List.getElem?_take,if_pos (by omega),←List.getD_eq_getElem?_getD]
 exact e2
theorem ZBq{h:Int}{al:List Int}{n:Nat}(hn:n≤15):∀(k i:Nat) (out x:List Int) (c z:Int),(∀j,i≤j→j<i+k→(deO h (paL 15 al j)).isSome=true→(deV h (paL 15 al j)).length=15)→dlR h al n k i out c=some (x,z)→x.length=out.length+k*n
 |0,i,out,x,c,z,_,e=>by
  rw[dlR]at e
  cases e
  omega
 |k+1,i,out,x,c,z,hd,e=>by
  rw[dlR]at e
  split at e
  ·rename_i hs
   have:=ZBq hn k (i+1) _ x _ z (fun j h1 h2 h3=>hd j (by omega) (by omega) h3) e
   rw[this,List.length_append,List.length_take,hd i (by omega) (by omega) hs,Nat.add_mul]
   omega
  ·cases e
def wgN(d:Nat)(a b:List Int)(k:Nat):Nat:=((List.range 15).filter fun j=>decide (paL 4 a (j*d+k)≠paL 4 b (j*d+k))).length
def ZnW(d:Nat)(a b:List Int):Nat→Nat
 |0=>0
 |k+1=>ZnW d a b k+wgN d a b k
theorem LnK.bs{h D:Int}{l:List Int}{n d:Nat}(K:LnK h D l n d):(biL (mxL h n l d)).length=60*d∧Zax (biL (mxL h n l d))=true:=by
 obtain⟨a,b⟩:=K.mx
 exact⟨by rw[Zr6,a];omega,Zqs _ b⟩
section
variable {h D:Int}{l:List Int}{n d:Nat}(K:LnK h D l n d){bb:List Int}(hl:bb.length=60*d)(hb:Zax bb=true)
include K hl hb
theorem Zyc{k:Nat}(hk:k<d):Zbd (paL 15 (tS (neL bb (15*d)) 15) k) (enW h (paL n l k))=(wgN d bb (biL (mxL h n l d)) k:Int):=by
 obtain⟨a,b⟩:=K.mx
 obtain⟨c,e⟩:=K.bs
 obtain⟨w1,w2⟩:=K.wo d (Nat.le_refl _)
 have h1:=K.d1
 have back:tS (mxL h n l d) 15=woL h n l d:=ZCI _ (by rw[w1]) (by omega)
 rw[←ZJv K d (Nat.le_refl _) k hk,←back]
 have e0:neL (biL (mxL h n l d)) (15*d)=mxL h n l d:=ZMV b a
 rw[ZkB (ZcG (D:=d) (by rw[ZdW,Zer];omega) hk) (ZcG (D:=d) (by rw[ZdW,a];omega) hk)]
 unfold dfL wgN
 congr 2
 refine List.filter_congr fun j hj=>?_
 have hj:=List.mem_range.1 hj
 have hjd:j*d+k<15*d:=by
  have:=Nat.mul_le_mul_right d (show j+1≤15 from hj)
  rw[Nat.add_mul,Nat.one_mul]at this;omega
 rw[ZuD (Zer _ _) hk hj,ZuD a hk hj,Zu1 hjd]
 have e1:(mxL h n l d).getD (j*d+k) 0=nbI (paL 4 (biL (mxL h n l d)) (j*d+k)) 0:=by
  rw[←Zu1 hjd,e0]
 rw[e1,decide_eq_decide]
 have:=ZHI (ZcG (D:=15*d) (by omega) hjd) (ZcG (D:=15*d) (by omega) hjd) (ZmQ (n:=4) hb (j*d+k)) (ZmQ (n:=4) e (j*d+k))
 exact not_congr this
theorem ZEo:∀(k i:Nat),i+k=d→(∀j,i≤j→j<d→(wgN d bb (biL (mxL h n l d)) j:Int)≤h)→dlR h (tS (neL bb (15*d)) 15) n k i (l.take (i*n)) (ZnW d bb (biL (mxL h n l d)) i)=some (l,(ZnW d bb (biL (mxL h n l d)) d:Int)):=by
 intro k
 induction k with
 |zero=>
  intro i hi _
  have:i=d:=by omega
  subst this
  rw[dlR,List.take_of_length_le (by rw[K.hl];omega)]
 |succ k ih=>
  intro i hi hw
  have hid:i<d:=by omega
  have g:=K.da hid
  obtain⟨c1,c2⟩:=Zwr g
  have hr:=Zyc K hl hb hid
  have hok:okw (paL 15 (tS (neL bb (15*d)) 15) i)=true:=okw_iff.2 ⟨ZcG (D:=d) (by rw[ZdW,Zer];omega) hid,Zpf (ZvV (ZzV hb (by omega))) i⟩
  obtain⟨s1,s2⟩:=ZCc hok K.hb c1 c2 (by rw[hr];exact hw i (by omega) hid)
  obtain⟨_,_,s3,_⟩:=Zwn hok K.hb s1
  rw[dlR,if_pos s1,s2,s3,s2,hr]
  have e1:(enW h (paL n l i)).take n=paL n l i:=by
   have:=ZLL g
   rwa[ZcG K.hl hid]at this
  have e2:l.take (i*n)++paL n l i=l.take ((i+1)*n):=by
   unfold paL
   rw[Nat.add_mul,Nat.one_mul,List.take_add]
  rw[e1,e2]
  have:=ih (i+1) (by omega) (fun j h1 h2=>hw j (by omega) h2)
  rw[ZnW,Int.natCast_add]at this
  exact this
end
theorem ZvU(d:Nat)(a:List Int)(k:Nat):wgN d a a k=0:=by unfold wgN;simp
theorem Zrr(d:Nat)(a:List Int):∀k,ZnW d a a k=0
 |0=>rfl
 |k+1=>by rw[ZnW,Zrr d a k,ZvU]
theorem ZGn{m p q h D:Int}{l:List Int}{n d:Nat}(K:LnK h D l n d):(snL m p q h D l).length=2*(60*d+m.toNat):=by
 obtain⟨a,_⟩:=K.bs
 rw[K.sn,Ze6,a]
theorem ZE0{m p q h D:Int}{so:List Int}{n d:Nat}(K:RcK m p q h D so n d)(hs:(dlO m p q h D so).isSome=true):(dlV m p q h D so).length=d*n:=by
 obtain⟨⟨x,z⟩,hx⟩:=Option.isSome_iff_exists.1 hs
 have e:dlV m p q h D so=x:=by unfold dlV;rw[hx]
 have hn:=K.n1
 rw[K.dl]at hx
 rw[e,ZBq (by omega) d 0 [] x 0 z (fun j _ h2 h3=>(K.de (by omega) h3).1) hx,List.length_nil,Nat.zero_add]
theorem Zva{m p q h D:Int}{so x:List Int}{z:Int}(g:ZyO m p q h D so=true)(e:dlO m p q h D so=some (x,z)):reE m p q h D so=0∧reV m p q h D so=x∧reN m p q h D so=z:=by
 unfold ZyO at g
 rw[Bool.and_eq_true,Bool.and_eq_true]at g
 obtain⟨g1,g2,g3⟩:=g
 have e0:reE m p q h D so=0:=by
  unfold reE
  rw[of_decide_eq_true g1,of_decide_eq_true g3,g2,e];rfl
 exact⟨e0,by unfold reV dlV;rw[if_pos e0,e],by unfold reN dlN;rw[if_pos e0,e]⟩
theorem ZCd{m p q h D:Int}{so:List Int}(g:ZyO m p q h D so=true)(e:dlO m p q h D so=none):reE m p q h D so=27∧reV m p q h D so=[]∧reN m p q h D so=0:=by
 unfold ZyO at g
 rw[Bool.and_eq_true,Bool.and_eq_true]at g
 obtain⟨g1,g2,g3⟩:=g
 have e0:reE m p q h D so=27:=by
  unfold reE
  rw[of_decide_eq_true g1,of_decide_eq_true g3,g2,e];rfl
 exact⟨e0,by unfold reV;rw[if_neg (by rw[e0];decide)],by unfold reN;rw[if_neg (by rw[e0];decide)]⟩
end Go.Proofs.Ytklbmkllepkjcaa
/- Ways through the trellis: no metric is greater than the bound of potentials; the best bits attain theirs, and come first; the forward potentials prove it. No condition. -/
namespace Go.Proofs.Ytklbmkllepkjcaa
section
variable (m p q:Int)(so:List Int)
def Zfl:Nat→Nat→List Int→Int
 |_,_,[]=>0
 |t,s,b::bs=>gnI m p q so t s b+Zfl (t+1) (nxS m s b).toNat bs
def Zi9:Nat→List Int→Nat
 |s,[]=>s
 |s,b::bs=>Zi9 (nxS m s b).toNat bs
def okW:Nat→List Int→Prop
 |_,[]=>True
 |t,b::bs=>(b=0∨b=1∧t<Zb4 m so)∧okW (t+1) bs
end
theorem Zpu{m:Int}{so:List Int} :∀ {a:List Int} {t:Nat},Zax a=true→t+a.length≤Zb4 m so→okW m so t a
 |[],_,_,_=>trivial
 |b::a,t,h,hl=>by
  have h':(decide (b=0∨b=1)&&Zax a)=true:=h
  rw[Bool.and_eq_true]at h'
  have hb:=of_decide_eq_true h'.1
  simp only[List.length_cons]at hl
  exact⟨by omega,Zpu h'.2 (by omega)⟩
theorem Zrx{m:Int}{so:List Int} :∀(n t:Nat),okW m so t (List.replicate n 0)
 |0,_=>trivial
 |n+1,t=>⟨Or.inl rfl,Zrx n (t+1)⟩
theorem Zwz{m:Int}{so:List Int} :∀ {a b:List Int} {t:Nat},okW m so t a→okW m so (t+a.length) b→okW m so t (a++b)
 |[],b,t,_,h=>by simpa using h
 |x::a,b,t,h1,h2=>by
  refine⟨h1.1,Zwz h1.2 ?_⟩
  rw[show t+1+a.length=t+(x::a).length by simp;omega];exact h2
theorem ZC9{m:Int}{so:List Int}{bs:List Int}(h:Zax bs=true)(hl:bs.length=Zb4 m so):okW m so 0 (bs++List.replicate m.toNat 0):=
 Zwz (Zpu h (by omega)) (Zrx _ _)
theorem ZCr{m p q:Int}{so:List Int}{n s:Nat}(hs:s<stS m){b:Int}(hb:b=0∨b=1∧Zac so-1-n<Zb4 m so):gnI m p q so (Zac so-1-n) s b+(dpP m p q so n).getD (nxS m s b).toNat 0≤(dpP m p q so (n+1)).getD s 0:=by
 rw[Zm9 m p q so hs,ZrC]
 unfold upP
 rcases hb with rfl |⟨rfl,hb⟩
 ·split<;>omega
 ·rw[if_pos hb];omega
section
variable {m p q:Int}{so:List Int}(h:OkC m p q so)
include h
theorem Zry:∀(bs:List Int) (t s:Nat),s<stS m→Zax bs=true→ZwD so (2*t) (ZoZ m p q s bs)=Zfl m p q so t s bs
 |[],_,_,_,_=>rfl
 |b::bs,t,s,hs,hb=>by
  have h':(decide (b=0∨b=1)&&Zax bs)=true:=hb
  rw[Bool.and_eq_true]at h'
  have hbb:=of_decide_eq_true h'.1
  obtain⟨s1,s2,s3⟩:=Zbt h hs hbb
  have i:=Zry bs (t+1) (nxS m s b).toNat s3 h'.2
  rw[Int.toNat_of_nonneg s2]at i
  rw[ZoZ,ZwD,ZwD,Zfl,←i,show 2*(t+1)=2*t+1+1 by omega,←Int.add_assoc,Zxz so t (Zd0 m p s b) (Zd0 m q s b)];rfl
theorem Zum:∀(bs:List Int) (t s:Nat),s<stS m→okW m so t bs→Zi9 m s bs<stS m
 |[],_,_,hs,_=>hs
 |b::bs,t,s,hs,hw=>Zum bs (t+1) _ (Zbt h hs (by have:=hw.1;omega)).2.2 hw.2
theorem ZtE:∀(bs:List Int) (t s:Nat),s<stS m→okW m so t bs→t+bs.length≤Zac so→Zfl m p q so t s bs+(dpP m p q so (Zac so-(t+bs.length))).getD (Zi9 m s bs) 0≤(dpP m p q so (Zac so-t)).getD s 0
 |[],t,s,_,_,_=>by simp[Zfl,Zi9]
 |b::bs,t,s,hs,hw,hl=>by
  simp only[List.length_cons]at hl
  have hb:=hw.1
  have i:=ZtE bs (t+1) (nxS m s b).toNat (Zbt h hs (by omega)).2.2 hw.2 (by omega)
  have d:=ZCr (m:=m) (p:=p) (q:=q) (so:=so) (n:=Zac so-(t+1)) (s:=s) (b:=b) hs (by rw[show Zac so-1-(Zac so-(t+1))=t by omega];exact hb)
  rw[show Zac so-1-(Zac so-(t+1))=t by omega,show Zac so-(t+1)+1=Zac so-t by omega]at d
  rw[show t+1+bs.length=t+(b::bs).length by simp;omega]at i
  rw[Zfl,Zi9]
  omega
end
theorem Zu7(m:Int)(s:Nat):(nxS m s 0).toNat=s/2:=by
 unfold nxS ZwB
 rw[Int.zero_mul,Int.zero_add];omega
theorem Zj3(m:Int):∀(n s:Nat),Zi9 m s (List.replicate n 0)=s/2^n
 |0,s=>by simp[Zi9]
 |n+1,s=>by rw[List.replicate_succ,Zi9,Zj3 m n,Zu7,Nat.div_div_eq_div_mul,Nat.pow_succ,Nat.mul_comm]
theorem Zra(m:Int):∀(a b:List Int) (s:Nat),Zi9 m s (a++b)=Zi9 m (Zi9 m s a) b
 |[],_,_=>rfl
 |_::a,b,_=>Zra m a b _
section
variable {m p q:Int}{so:List Int}(h:OkC m p q so)
include h
theorem ZCh:stS m=2^m.toNat:=by
 have hm:=(Zap h.cv).1
 rcases hm with rfl |rfl |rfl<;>rfl
theorem ZqN{s:Nat}(hs:s<stS m):Zi9 m s (List.replicate m.toNat 0)=0:=by
 rw[Zj3]
 rw[ZCh h]at hs
 exact Nat.div_eq_of_lt hs
theorem Zu0:Zb4 m so+m.toNat=Zac so∧Zac so≤303∧so.length=2*Zac so:=by
 have hm:=(Zap h.cv).1
 obtain⟨_,hl1,hl2,hl3⟩:=h.soft
 unfold Zb4 Zac;omega
theorem ZqL{bs:List Int}(hb:Zax bs=true):ZwD so 0 (Zbf m p q bs)=Zfl m p q so 0 0 (bs++List.replicate m.toNat 0):=by
 have h2:=Zbg (Zap h.cv).1
 exact Zry h (bs++List.replicate m.toNat 0) 0 0 (by omega) (ZdL hb (ZiY _))
theorem ZmD{bs:List Int}(hb:Zax bs=true)(hl:bs.length=Zb4 m so):Zi9 m 0 (bs++List.replicate m.toNat 0)=0:=by
 have h2:=Zbg (Zap h.cv).1
 rw[Zra]
 exact ZqN h (Zum h bs 0 0 (by omega) (Zpu hb (by omega)))
theorem ZGo{bs:List Int}(hb:Zax bs=true)(hl:bs.length=Zb4 m so):ZwD so 0 (Zbf m p q bs)≤bvI m p q so:=by
 have h2:=Zbg (Zap h.cv).1
 obtain⟨z1,z2,z3⟩:=Zu0 h
 have i:=ZtE h (bs++List.replicate m.toNat 0) 0 0 (by omega) (ZC9 hb hl) (by simp;omega)
 rw[ZmD h hb hl,←ZqL h hb,List.length_append,List.length_replicate,hl,Nat.zero_add,z1,Nat.sub_self,ZmN m p q so (by omega),Nat.sub_zero,(ZmC h).2]at i
 simpa using i
theorem Zvh:∀(n s:Nat),n≤m.toNat→s<stS m→s/2^n=0→(dpP m p q so n).getD s 0=Zfl m p q so (Zac so-n) s (List.replicate n 0)
 |0,s,_,hs,h0=>by
  rw[ZmN m p q so hs,if_pos (by simpa using h0)];rfl
 |n+1,s,hn,hs,h0=>by
  obtain⟨z1,z2,z3⟩:=Zu0 h
  obtain⟨s1,s2,s3⟩:=Zbt h hs (b:=0) (Or.inl rfl)
  have e:(nxS m s 0).toNat/2^n=0:=by rw[Zu7,Nat.div_div_eq_div_mul,Nat.mul_comm,←Nat.pow_succ];exact h0
  have i:=Zvh n (nxS m s 0).toNat (by omega) s3 e
  have hb:=Zd6 h (n:=n) (by omega) s3
  rw[Zm9 m p q so hs,ZrC,if_neg (by omega),upP,List.replicate_succ,Zfl,i,show Zac so-1-n=Zac so-(n+1) by omega,show Zac so-(n+1)+1=Zac so-n by omega]
  have hm:=(Zap h.cv).1
  obtain⟨hg,_⟩:=h.soft
  have g:=Zh5 (m:=m) (p:=p) (q:=q) hg (Zac so-(n+1)) s 0
  have lo: -14*(n:Int)≤Zfl m p q so (Zac so-n) (nxS m s 0).toNat (List.replicate n 0):=by
   have key:∀(bs:List Int) (t s:Nat), -14*(bs.length:Int)≤Zfl m p q so t s bs:=by
    intro bs
    induction bs with
    |nil=>intro t s;simp[Zfl]
    |cons b bs ih=>
     intro t s
     have:=ih (t+1) (nxS m s b).toNat
     have g:=Zh5 (m:=m) (p:=p) (q:=q) hg t s b
     rw[Zfl,List.length_cons];omega
   have:=key (List.replicate n 0) (Zac so-n) (nxS m s 0).toNat
   simpa using this
  omega
theorem Zwg:∀(j t s:Nat),t+j=Zb4 m so→s<stS m→ -14*((Zac so-t:Nat):Int)≤(dpR m p q so (Zac so-t)).getD s 0→
 Zfl m p q so t s (tbP m p q so j t s++List.replicate m.toNat 0)=(dpP m p q so (Zac so-t)).getD s 0∧Zax (tbP m p q so j t s)=true∧(tbP m p q so j t s).length=j
 |0,t,s,ht,hs,_=>by
  obtain⟨z1,z2,z3⟩:=Zu0 h
  have e:Zac so-t=m.toNat:=by omega
  rw[e,Zvh h m.toNat s (Nat.le_refl _) hs (by rw[←Zj3 m];exact ZqN h hs),show Zac so-m.toNat=t by omega]
  exact⟨rfl,rfl,rfl⟩
 |j+1,t,s,ht,hs,hw=>by
  obtain⟨hg,_⟩:=h.soft
  obtain⟨z1,z2,z3⟩:=Zu0 h
  have hg0:=Zh5 (m:=m) (p:=p) (q:=q) hg t s 0
  have hg1:=Zh5 (m:=m) (p:=p) (q:=q) hg t s 1
  obtain⟨_,a2,a3⟩:=Zbt h hs (b:=0) (Or.inl rfl)
  obtain⟨_,b2,b3⟩:=Zbt h hs (b:=1) (Or.inr rfl)
  obtain⟨n,hn⟩:∃n,Zac so-t=n+1:=⟨Zac so-t-1,by omega⟩
  have hn1:Zac so-t-1=n:=by omega
  have w:=ZgH h (n+1) (by omega) s hs
  have w0:=ZgH h n (by omega) _ a3
  have w1:=ZgH h n (by omega) _ b3
  have e0:=Zgm m p q so hs (n:=n)
  rw[show Zac so-1-n=t by omega,ZAs,if_pos (by omega),upR,upR]at e0
  have i0:=Zwg j (t+1) (nxS m s 0).toNat (by omega) a3
  have i1:=Zwg j (t+1) (nxS m s 1).toNat (by omega) b3
  rw[show Zac so-(t+1)=n by omega]at i0 i1
  rw[hn]at hw
  obtain⟨r1,r2,r3⟩:=Zr5 (by omega) w w0 w1 hg0 hg1 hw e0
  rw[tbP,hn1,hn]
  by_cases hq:(dpR m p q so n).getD (nxS m s 0).toNat 0+gnI m p q so t s 0=(dpR m p q so (n+1)).getD s 0
  ·obtain⟨c1,c2,c3⟩:=i0 (r2 hq)
   rw[if_pos (r1.2 hq),List.cons_append,Zfl,c1]
   exact⟨by have:=r1.2 hq;omega,c2,by rw[List.length_cons,c3]⟩
  ·obtain⟨d1,d2⟩:=r3 hq
   obtain⟨c1,c2,c3⟩:=i1 d2
   rw[if_neg (fun e=>hq (r1.1 e)),if_pos d1,List.cons_append,Zfl,c1]
   exact⟨by omega,c2,by rw[List.length_cons,c3]⟩
theorem Zxh:ZwD so 0 (Zbf m p q (blI m p q so))=bvI m p q so∧Zax (blI m p q so)=true∧(blI m p q so).length=Zb4 m so:=by
 have h2:=Zbg (Zap h.cv).1
 have hz:=ZfW h (Zac so) (Nat.le_refl _)
 obtain⟨a,b,c⟩:=Zwg h (Zb4 m so) 0 0 (by omega) (by omega) (by simpa using hz)
 obtain⟨d,e⟩:=ZmC h
 rw[d]at a b c
 rw[Nat.sub_zero,e]at a
 exact⟨by rw[ZqL h b,a],b,c⟩
end
end Go.Proofs.Ytklbmkllepkjcaa
/- The free distance of all codes, and the linearity of steps, by the kernel. No condition. -/
namespace Go.Proofs.Ytklbmkllepkjcaa
def wgt(m p q:Int):Nat→List Int→Int
 |_,[]=>0
 |s,b::bs=>wt m p q s b+wgt m p q (nxS m s b).toNat bs
theorem Zwq(m p q:Int):∀(bs:List Int) (s:Nat),0≤wgt m p q s bs
 |[],_=>by simp[wgt]
 |b::bs,s=>by
  have h1:=Zwq m p q bs (nxS m s b).toNat
  have h2:=Zvp m p q s b
  rw[wgt];omega
def ZCO(m p q:Int):Bool:=
 match frP m p q with
 |(d,ws)=>decide (1≤d∧d≤100)&&(decide (ws.getD (nxS m 0 1).toNat 0≤wt m p q 0 1)&&(List.range (stS m)).all fun s=>s==0||[0,1].all fun b=>
  if nxS m s b=0 then decide (d≤ws.getD s 0+wt m p q s b)else decide (ws.getD (nxS m s b).toNat 0≤ws.getD s 0+wt m p q s b))
def ZNU:Bool:=(List.range 4).all fun m=>(List.range 16).all fun p=>(List.range 16).all fun q=>if ZaB m p q=0 then ZCO m p q else true
theorem ZCl:ZNU=true:=by kernel_rfl
theorem ZEM{m p q:Int}(h:ZaB m p q=0):ZCO m p q=true:=by
 obtain⟨hm,p1,p2,q1,q2,p3,q3⟩:=Zap h
 have h0:=ZCl
 obtain⟨M,rfl⟩:=Int.eq_ofNat_of_zero_le (show 0≤m by omega)
 obtain⟨P,rfl⟩:=Int.eq_ofNat_of_zero_le (show 0≤p by omega)
 obtain⟨Q,rfl⟩:=Int.eq_ofNat_of_zero_le (show 0≤q by omega)
 unfold ZNU at h0
 have h1:=List.all_eq_true.1 h0 M (List.mem_range.2 (by omega))
 have h2:=List.all_eq_true.1 h1 P (List.mem_range.2 (by omega))
 have h3:=List.all_eq_true.1 h2 Q (List.mem_range.2 (by omega))
 rwa[if_pos h]at h3
def xb(a b:Int):Int:=if a=b then 0 else 1
def ZOb:Bool:=(List.range 4).all fun m=>(List.range 16).all fun g=>(List.range 8).all fun s=>(List.range 8).all fun u=>[0,1].all fun a=>[0,1].all fun b=>
 if s<2^m∧u<2^m then decide (xb (oS m g s a) (oS m g u b)=oS m g ((s ^^^ u:Nat):Int) (xb a b))&&(nxS m ((s ^^^ u:Nat):Int) (xb a b)).toNat==(nxS m s a).toNat ^^^ (nxS m u b).toNat else true
theorem ZFf:ZOb=true:=by kernel_rfl
theorem ZAS{m g:Int}(hm:m=1∨m=2∨m=3)(hg:0≤g∧g≤15){s u:Nat}(hs:s<stS m)(hu:u<stS m){a b:Int}(ha:a=0∨a=1)(hb:b=0∨b=1):
 xb (oS m g s a) (oS m g u b)=oS m g ((s ^^^ u:Nat):Int) (xb a b)∧(nxS m ((s ^^^ u:Nat):Int) (xb a b)).toNat=(nxS m s a).toNat ^^^ (nxS m u b).toNat:=by
 have h2:=Zbg hm
 have hp:stS m=2^m.toNat:=by rcases hm with rfl |rfl |rfl<;>rfl
 have h0:=ZFf
 obtain⟨M,rfl⟩:=Int.eq_ofNat_of_zero_le (show 0≤m by omega)
 obtain⟨G,rfl⟩:=Int.eq_ofNat_of_zero_le hg.1
 unfold ZOb at h0
 have h1:=List.all_eq_true.1 h0 M (List.mem_range.2 (by omega))
 have h2:=List.all_eq_true.1 h1 G (List.mem_range.2 (by omega))
 have h3:=List.all_eq_true.1 h2 s (List.mem_range.2 (by omega))
 have h4:=List.all_eq_true.1 h3 u (List.mem_range.2 (by omega))
 have h5:=List.all_eq_true.1 h4 a (by rcases ha with rfl |rfl<;>simp)
 have h6:=List.all_eq_true.1 h5 b (by rcases hb with rfl |rfl<;>simp)
 rw[hp,Int.toNat_natCast]at hs hu
 rw[if_pos ⟨hs,hu⟩,Bool.and_eq_true,decide_eq_true_eq,beq_iff_eq]at h6
 exact h6
end Go.Proofs.Ytklbmkllepkjcaa
/- The free distance: two words differ in at least so many symbols; what is spoilt in fewer than half of them is decoded. No condition. -/
namespace Go.Proofs.Ytklbmkllepkjcaa
structure Free (m p q d:Int) (ws:List Int):Prop where
 r:1≤d∧d≤100
 b:ws.getD (nxS m 0 1).toNat 0≤wt m p q 0 1
 z:∀(s:Nat) (b:Int),s<stS m→s≠0→(b=0∨b=1)→nxS m s b=0→d≤ws.getD s 0+wt m p q s b
 n:∀(s:Nat) (b:Int),s<stS m→s≠0→(b=0∨b=1)→nxS m s b≠0→ws.getD (nxS m s b).toNat 0≤ws.getD s 0+wt m p q s b
theorem Zt6{m p q:Int}(h:ZaB m p q=0):∃ws,Free m p q (frI m p q) ws:=by
 have g:=ZEM h
 unfold ZCO at g
 have e:frI m p q=(frP m p q).1:=by unfold frI;rw[if_pos h]
 rw[e]
 generalize frP m p q=x at g⊢
 obtain⟨d,ws⟩:=x
 simp only[Bool.and_eq_true,decide_eq_true_eq]at g
 obtain⟨g1,g2,g3⟩:=g
 have key:∀(s:Nat) (b:Int),s<stS m→s≠0→(b=0∨b=1)→(if nxS m s b=0 then decide (d≤ws.getD s 0+wt m p q s b)else decide (ws.getD (nxS m s b).toNat 0≤ws.getD s 0+wt m p q s b))=true:=fun s b hs h0 hb=>by
  have h1:=List.all_eq_true.1 g3 s (List.mem_range.2 hs)
  rw[Bool.or_eq_true]at h1
  rcases h1 with h1 |h1
  ·exact absurd (by simpa using h1) h0
  ·exact List.all_eq_true.1 h1 b (by rcases hb with rfl |rfl<;>simp)
 refine⟨ws,g1,g2,fun s b hs h0 hb hn=>?_,fun s b hs h0 hb hn=>?_⟩
 ·have:=key s b hs h0 hb;rw[if_pos hn]at this;exact of_decide_eq_true this
 ·have:=key s b hs h0 hb;rw[if_neg hn]at this;exact of_decide_eq_true this
theorem ZFW{m p q:Int}(hv:ZaB m p q=0):0<nxS m (0:Nat) 1:=by
 rcases(Zap hv).1 with rfl |rfl |rfl<;>decide
section
variable {m p q d:Int}{ws:List Int}(hv:ZaB m p q=0)(hf:Free m p q d ws)
include hv hf
theorem Zr7:∀(bs:List Int) (s:Nat),s<stS m→s≠0→Zax bs=true→Zi9 m s bs=0→d≤ws.getD s 0+wgt m p q s bs
 |[],s,_,h0,_,he=>absurd he h0
 |b::bs,s,hs,h0,hb,he=>by
  have h':(decide (b=0∨b=1)&&Zax bs)=true:=hb
  rw[Bool.and_eq_true]at h'
  have hbb:=of_decide_eq_true h'.1
  have h2:=Zbg (Zap hv).1
  obtain⟨s1,s2,s3⟩:=Zph hv (s:=s) (b:=b) (by omega) hbb
  rw[Zi9]at he
  rw[wgt]
  by_cases hz:nxS m s b=0
  ·have:=hf.z s b hs h0 hbb hz
   have:=Zwq m p q bs (nxS m s b).toNat
   omega
  ·have i:=Zr7 bs (nxS m s b).toNat (by omega) (by omega) h'.2 he
   have:=hf.n s b hs h0 hbb hz
   omega
theorem Zr9:∀(bs:List Int),Zax bs=true→Zi9 m 0 bs=0→(∃x∈bs,x=1)→d≤wgt m p q 0 bs
 |[],_,_,⟨x,hx,_⟩=>by cases hx
 |b::bs,hb,he,⟨x,hx,hx1⟩=>by
  have h':(decide (b=0∨b=1)&&Zax bs)=true:=hb
  rw[Bool.and_eq_true]at h'
  have hbb:=of_decide_eq_true h'.1
  have h2:=Zbg (Zap hv).1
  obtain⟨s1,s2,s3⟩:=Zph hv (s:=(0:Nat)) (b:=b) (by omega) hbb
  rw[Zi9]at he
  rw[wgt]
  rcases hbb with rfl |rfl
  ·have e:(nxS m (0:Nat) 0).toNat=0:=Zv5 (Zap hv).1
   rw[e]at he⊢
   have hx':x∈bs:=by
    rcases List.mem_cons.1 hx with r |r
    ·omega
    ·exact r
   have i:=Zr9 bs h'.2 he ⟨x,hx',hx1⟩
   have:=Zvp m p q (0:Nat) 0
   omega
  ·have h1:=ZFW hv
   have i:=Zr7 hv hf bs (nxS m (0:Nat) 1).toNat (by omega) (by omega) h'.2 he
   have:=hf.b
   have e:((0:Nat):Int)=0:=rfl
   rw[e]at i⊢
   omega
end
theorem ZNq(a b:Int):xb a b=0∨xb a b=1:=by unfold xb;split<;>simp
def ZzE:List Int→List Int→List Int
 |a::u,b::v=>xb a b::ZzE u v
 |_,_=>[]
theorem Zoi:∀a b:List Int,Zax (ZzE a b)=true
 |[],_=>rfl
 |_::_,[]=>rfl
 |x::a,y::b=>by
  have:=Zoi a b
  unfold Zax at*
  rw[ZzE,List.all_cons,this,Bool.and_true]
  exact decide_eq_true (ZNq x y)
theorem ZuI:∀ {a b:List Int},a.length=b.length→a≠b→∃x∈ZzE a b,x=1
 |[],[],_,h=>absurd rfl h
 |[],_::_,h,_=>by simp at h
 |_::_,[],h,_=>by simp at h
 |x::a,y::b,hl,h=>by
  by_cases hxy:x=y
  ·subst hxy
   obtain⟨z,hz,h1⟩:=ZuI (a:=a) (b:=b) (by simpa using hl) (fun e=>h (by rw[e]))
   exact⟨z,List.mem_cons_of_mem _ hz,h1⟩
  ·exact⟨xb x y,List.mem_cons_self,by unfold xb;rw[if_neg hxy]⟩
section
variable {m p q:Int}(hv:ZaB m p q=0)
include hv
theorem ZqY:∀(a b:List Int) (s u:Nat),a.length=b.length→Zax a=true→Zax b=true→s<stS m→u<stS m→
 Zbd (ZoZ m p q s a) (ZoZ m p q u b)=wgt m p q (s ^^^ u) (ZzE a b)∧Zi9 m (s ^^^ u) (ZzE a b)=Zi9 m s a ^^^ Zi9 m u b
 |[],[],s,u,_,_,_,_,_=>by simp[ZoZ,Zbd,wgt,ZzE,Zi9]
 |[],_::_,_,_,h,_,_,_,_=>by simp at h
 |_::_,[],_,_,h,_,_,_,_=>by simp at h
 |x::a,y::b,s,u,hl,ha,hb,hs,hu=>by
  have ha':(decide (x=0∨x=1)&&Zax a)=true:=ha
  have hb':(decide (y=0∨y=1)&&Zax b)=true:=hb
  rw[Bool.and_eq_true]at ha' hb'
  have hx:=of_decide_eq_true ha'.1
  have hy:=of_decide_eq_true hb'.1
  obtain⟨hm,p1,p2,q1,q2,p3,q3⟩:=Zap hv
  have h2:=Zbg hm
  obtain⟨_,x2,x3⟩:=Zph hv (s:=s) (b:=x) (by omega) hx
  obtain⟨_,y2,y3⟩:=Zph hv (s:=u) (b:=y) (by omega) hy
  obtain⟨l1,l2⟩:=ZAS (g:=p) hm ⟨by omega,p3⟩ hs hu hx hy
  obtain⟨l3,_⟩:=ZAS (g:=q) hm ⟨by omega,q3⟩ hs hu hx hy
  obtain⟨i1,i2⟩:=ZqY a b (nxS m s x).toNat (nxS m u y).toNat (by simpa using hl) ha'.2 hb'.2 (by omega) (by omega)
  rw[Int.toNat_of_nonneg x2,Int.toNat_of_nonneg y2]at i1
  rw[←l2]at i1 i2
  rw[ZoZ,ZoZ,Zbd,Zbd,ZzE,wgt,Zi9,i1,Zi9,Zi9]
  refine⟨?_,i2⟩
  unfold wt
  rw[←l1,←l3]
  unfold xb
  omega
end
section
variable {m p q:Int}{so:List Int}(h:OkC m p q so)
include h
theorem ZwZ{a b:List Int}(ha:Zax a=true)(hb:Zax b=true)(hla:a.length=Zb4 m so)(hlb:b.length=Zb4 m so)(hne:a≠b):frI m p q≤Zbd (Zbf m p q a) (Zbf m p q b):=by
 obtain⟨ws,hf⟩:=Zt6 h.cv
 have h2:=Zbg (Zap h.cv).1
 obtain⟨d1,d2⟩:=ZqY h.cv (a++List.replicate m.toNat 0) (b++List.replicate m.toNat 0) 0 0 (by simp;omega) (ZdL ha (ZiY _)) (ZdL hb (ZiY _)) (by omega) (by omega)
 rw[ZmD h ha hla,ZmD h hb hlb]at d2
 have w:=Zr9 h.cv hf (ZzE (a++List.replicate m.toNat 0) (b++List.replicate m.toNat 0)) (Zoi _ _) d2 (ZuI (by simp;omega) (fun e=>hne (List.append_cancel_right e)))
 unfold Zbf
 rw[show ((0:Nat):Int)=0 from rfl]at d1
 rw[d1];exact w
end
def spL(ats:List Int)(sz:Int):Nat→List Int→List Int
 |_,[]=>[]
 |i,x::l=>(if (i:Int)∈ats then -(sz*(1-2*x))else sz*(1-2*x))::spL ats sz (i+1) l
def spN(ats:List Int):Nat→List Int→Int
 |_,[]=>0
 |i,_::l=>(if (i:Int)∈ats then 1 else 0)+spN ats (i+1) l
theorem Zjh(ats:List Int)(sz:Int):∀(l:List Int) (i:Nat),(spL ats sz i l).length=l.length
 |[],_=>rfl
 |x::l,i=>by rw[spL,List.length_cons,Zjh ats sz l,List.length_cons]
theorem Zt3(ats:List Int):∀(l:List Int) (i:Nat),0≤spN ats i l∧spN ats i l≤l.length
 |[],_=>by simp[spN]
 |x::l,i=>by
  have:=Zt3 ats l (i+1)
  rw[spN,List.length_cons];split<;>omega
theorem Zqq(ats:List Int){sz:Int}(hs:1≤sz∧sz≤7):∀(l:List Int) (i:Nat),Zax l=true→(spL ats sz i l).all (fun x=>Zal x (-7) 7)=true
 |[],_,_=>rfl
 |x::l,i,h=>by
  have h':(decide (x=0∨x=1)&&Zax l)=true:=h
  rw[Bool.and_eq_true]at h'
  have hx:=of_decide_eq_true h'.1
  rw[spL,List.all_cons,Zqq ats hs l (i+1) h'.2,Bool.and_true]
  refine decide_eq_true ?_
  rcases hx with rfl |rfl<;>split<;>omega
def Zwd(ats:List Int):Nat→List Int→List Int→Int
 |i,x::l,y::r=>(if (i:Int)∈ats then(if x=y then 1 else 0)else(if x=y then 0 else 1))+Zwd ats (i+1) l r
 |_,_,_=>0
theorem ZAm(ats:List Int):∀(l r:List Int) (i:Nat),Zbd l r-spN ats i l≤Zwd ats i l r
 |[],_,_=>by simp[Zbd,Zwd,spN]
 |x::l,[],i=>by
  have:=Zt3 ats (x::l) i
  simp only[Zbd,Zwd];omega
 |x::l,y::r,i=>by
  have:=ZAm ats l r (i+1)
  rw[Zbd,spN,Zwd]
  split<;>split<;>omega
theorem ZrP(ats:List Int):∀(l:List Int) (i:Nat),Zwd ats i l l=spN ats i l
 |[],_=>rfl
 |x::l,i=>by rw[Zwd,spN,ZrP ats l (i+1)];simp
theorem Zpw(ats:List Int)(sz:Int)(so:List Int):∀(l r:List Int) (i:Nat),l.length=r.length→Zax l=true→Zax r=true→so.drop i=spL ats sz i l→ZwD so i r=sz*(l.length-2*Zwd ats i l r)
 |[],[],_,_,_,_,_=>by simp[ZwD,Zwd]
 |[],_::_,_,h,_,_,_=>by simp at h
 |_::_,[],_,h,_,_,_=>by simp at h
 |x::l,y::r,i,hl,ha,hb,hd=>by
  have ha':(decide (x=0∨x=1)&&Zax l)=true:=ha
  have hb':(decide (y=0∨y=1)&&Zax r)=true:=hb
  rw[Bool.and_eq_true]at ha' hb'
  have hx:=of_decide_eq_true ha'.1
  have hy:=of_decide_eq_true hb'.1
  rw[spL]at hd
  have hlt:i<so.length:=by
   by_cases hc:i<so.length
   ·exact hc
   ·rw[List.drop_of_length_le (by omega)]at hd;cases hd
  rw[Zfk hlt]at hd
  injection hd with e1 e2
  have ih:=Zpw ats sz so l r (i+1) (by simpa using hl) ha'.2 hb'.2 e2
  rw[ZwD,ih,Zwd,e1,List.length_cons]
  unfold coI
  generalize Zwd ats (i+1) l r=D
  generalize hL:(l.length:Int)=L
  rw[Int.natCast_add,hL]
  have e3:sz*(L+((1:Nat):Int)-2*(1+D))=sz*(L-2*D)-sz:=by
   rw[show (L+((1:Nat):Int)-2*(1+D))=(L-2*D)-1 by omega,Int.mul_sub,Int.mul_one]
  have e4:sz*(L+((1:Nat):Int)-2*(0+D))=sz*(L-2*D)+sz:=by
   rw[show (L+((1:Nat):Int)-2*(0+D))=(L-2*D)+1 by omega,Int.mul_add,Int.mul_one]
  rcases hx with rfl |rfl<;>rcases hy with rfl |rfl<;>by_cases hi:(i:Int)∈ats<;>simp only[hi,if_false,if_pos,Int.reduceEq]<;>first |(rw [e3];omega) |(rw [e4];omega)
section
variable {m p q:Int}(hv:ZaB m p q=0){bs ats:List Int}{sz:Int}(hl:bs.length≤300)(hs:1≤sz∧sz≤7)
include hv hl hs
theorem ZtT:OkC m p q (spL ats sz 0 (Zbf m p q bs)):=by
 have hm:=(Zap hv).1
 have e:=Zjh ats sz (Zbf m p q bs) 0
 have e2:=Ze6 m p q bs
 refine⟨hv,?_⟩
 unfold sfE ZaP
 rw[if_neg (by omega),if_neg (by omega),if_pos (Zqq ats hs (Zbf m p q bs) 0 (Zcf m p q _ 0))]
theorem Zos(hb:Zax bs=true)(hd:2*spN ats 0 (Zbf m p q bs)<frI m p q):blI m p q (spL ats sz 0 (Zbf m p q bs))=bs∧bvI m p q (spL ats sz 0 (Zbf m p q bs))=sz*((Zbf m p q bs).length-2*spN ats 0 (Zbf m p q bs)):=by
 have ho:=ZtT hv hl hs (ats:=ats)
 have hm:=(Zap hv).1
 have e:=Zjh ats sz (Zbf m p q bs) 0
 have e2:=Ze6 m p q bs
 obtain⟨b1,b2,b3⟩:=Zxh ho
 have hn:bs.length=Zb4 m (spL ats sz 0 (Zbf m p q bs)):=by unfold Zb4;omega
 have m1:=ZGo ho hb hn
 have s1:=Zpw ats sz (spL ats sz 0 (Zbf m p q bs)) (Zbf m p q bs) (Zbf m p q bs) 0 rfl (Zcf m p q _ 0) (Zcf m p q _ 0) rfl
 rw[ZrP]at s1
 have hle:(Zbf m p q (blI m p q (spL ats sz 0 (Zbf m p q bs)))).length=(Zbf m p q bs).length:=by rw[Ze6,Ze6,b3,hn]
 have s2:=Zpw ats sz (spL ats sz 0 (Zbf m p q bs)) (Zbf m p q bs) (Zbf m p q (blI m p q (spL ats sz 0 (Zbf m p q bs)))) 0 hle.symm (Zcf m p q _ 0) (Zcf m p q _ 0) rfl
 by_cases heq:blI m p q (spL ats sz 0 (Zbf m p q bs))=bs
 ·refine⟨heq,?_⟩
  rw[←b1,heq,s1]
 ·exfalso
  have dm:=ZwZ ho hb b2 hn b3 (fun x=>heq x.symm)
  have dg:=ZAm ats (Zbf m p q bs) (Zbf m p q (blI m p q (spL ats sz 0 (Zbf m p q bs)))) 0
  rw[s1]at m1
  rw[s2]at b1
  rw[←b1]at m1
  have:=Int.le_of_mul_le_mul_left m1 (by omega)
  omega
end
end Go.Proofs.Ytklbmkllepkjcaa
/- The law of what goes through the link: the walk. No condition. -/
namespace Go.Proofs.Ytklbmkllepkjcaa
def wgT(k:Nat)(a b:List Int)(j t:Nat):Nat:=((List.range t).filter fun i=>decide (paL 4 a (i*k+j)≠paL 4 b (i*k+j))).length
theorem Zq8(k:Nat)(a b:List Int)(j t:Nat):wgT k a b j (t+1)=wgT k a b j t+if paL 4 a (t*k+j)≠paL 4 b (t*k+j)then 1 else 0:=by
 unfold wgT
 rw[List.range_succ,List.filter_append,List.length_append]
 by_cases h:paL 4 a (t*k+j)=paL 4 b (t*k+j)<;>simp[h]
def cnW(k:Nat)(a b:List Int):Nat→List Int
 |0=>List.replicate k 0
 |i+1=>if paL 4 a i≠paL 4 b i then(cnW k a b i).set (i%k) ((cnW k a b i).getD (i%k) 0+1)else cnW k a b i
theorem ZnK(k:Nat)(a b:List Int):∀i,(cnW k a b i).length=k
 |0=>by simp[cnW]
 |i+1=>by
  rw[cnW]
  split
  ·rw[List.length_set,ZnK k a b i]
  ·exact ZnK k a b i
theorem ZM6(l:List Int)(i j:Nat)(v:Int)(hi:i<l.length):(l.set i v).getD j 0=if i=j then v else l.getD j 0:=by
 rw[List.getD_eq_getElem?_getD,List.getElem?_set]
 by_cases h:i=j
 ·rw[if_pos h,if_pos h,if_pos hi];rfl
 ·rw[if_neg h,if_neg h,List.getD_eq_getElem?_getD]
theorem ZtB{k:Nat}(a b:List Int)(t:Nat)(h0:∀j,j<k→(cnW k a b (t*k)).getD j 0=(wgT k a b j t:Int)):∀r,r≤k→∀j,j<k→(cnW k a b (t*k+r)).getD j 0=(wgT k a b j (if j<r then t+1 else t):Int)
 |0,_,j,hj=>by rw[Nat.add_zero,if_neg (by omega)];exact h0 j hj
 |r+1,hr,j,hj=>by
  have i:=ZtB a b t h0 r (by omega)
  have hm:(t*k+r)%k=r:=by rw[Nat.mul_comm,Nat.mul_add_mod];exact Nat.mod_eq_of_lt (by omega)
  rw[show t*k+(r+1)=(t*k+r)+1 by omega,cnW,hm]
  by_cases hd:paL 4 a (t*k+r)=paL 4 b (t*k+r)
  ·rw[if_neg (fun h=>h hd),i j hj]
   by_cases hjr:j=r
   ·subst hjr
    rw[if_neg (by omega),if_pos (by omega),Zq8,if_neg (fun h=>h hd),Nat.add_zero]
   ·by_cases hlt:j<r
    ·rw[if_pos hlt,if_pos (by omega)]
    ·rw[if_neg hlt,if_neg (by omega)]
  ·rw[if_pos hd,ZM6 _ _ _ _ (by rw[ZnK];omega)]
   by_cases hjr:r=j
   ·subst hjr
    rw[if_pos rfl,i r hj,if_neg (by omega),if_pos (by omega),Zq8,if_pos hd]
    exact(Int.natCast_add _ _).symm
   ·rw[if_neg hjr,i j hj]
    by_cases hlt:j<r
    ·rw[if_pos hlt,if_pos (by omega)]
    ·rw[if_neg hlt,if_neg (by omega)]
theorem ZpV{k:Nat}(a b:List Int):∀t,∀j,j<k→(cnW k a b (t*k)).getD j 0=(wgT k a b j t:Int)
 |0,j,hj=>by rw[Nat.zero_mul,cnW];simp[wgT,hj]
 |t+1,j,hj=>by
  have:=ZtB a b t (ZpV a b t) k (Nat.le_refl _) j hj
  rw[if_pos hj]at this
  rw[Nat.add_mul,Nat.one_mul]
  exact this
theorem ZAc{k:Nat}(a b:List Int):∀i,ZnW k a b i≤15*i
 |0=>Nat.le_refl _
 |i+1=>by
  have:=ZAc (k:=k) a b i
  have h:wgN k a b i≤15:=by
   unfold wgN
   exact Nat.le_trans (List.length_filter_le _ _) (by simp)
  rw[ZnW];omega
theorem ZuK:∀(l:List Int) (i:Nat),spN [] i l=0
 |[],_=>rfl
 |x::l,i=>by rw[spN,ZuK l];simp
theorem ZtW:∀(l:List Int) (i:Nat),spL [] 1 i l=l.map fun x=>1-2*x
 |[],_=>rfl
 |x::l,i=>by rw[spL,ZtW l,if_neg (by simp),Int.one_mul,List.map_cons]
theorem ZMo{m p q h D:Int}{d:List Int}{n k:Nat}(hv:ZaB m p q=0)(K:LnK h D d n k):lkE m p q h D=0:=by
 have h1:=of_decide_eq_true K.hb
 have h2:=K.d1
 have h3:=K.hd
 have e1:hfE h=0:=by unfold hfE Zam;rw[if_pos];exact decide_eq_true (by omega)
 have e2:Zal D 1 4=true:=decide_eq_true (by omega)
 simp[lkE,ZaD,Zam,hv,e1,e2]
section
variable {C:Ctx}(hC:C.P=Try.prog)(m p q h D:Int)(d:List Int)(n k:Nat)(K:LnK h D d n k)(hv:ZaB m p q=0)
include hC K
theorem ZP7(v:List Int)(c e:Int)(bb bs:List Int)(hv1:(∀j,j<k→(wgN k bb bs j:Int)≤h)→e=0∧v=d∧c=ZnW k bb bs k)(hv2:(e=27∧v=[])∨(e=0∧v.length=d.length)):
 ∀(x i:Nat),i+x=k→(∀j,j<i→(wgN k bb bs j:Int)≤h)→Ev C (ZjI m p q h D d v c e (cnW k bb bs (15*k)) (ZnW k bb bs i) i) (Zhx m p q h D d v c e (cnW k bb bs (15*k)) (ZnW k bb bs i) i) (ZaI 11 (.bool true) none):=by
 have hk:=K.d1
 have hD:=K.hd
 have hl:=K.hl
 have hn:=K.n1
 have hkn:k*n≤52:=Nat.mul_le_mul hk.2 hn.2
 have hcl:=ZnK k bb bs (15*k)
 intro x
 induction x with
 |zero=>
  intro i hi hw
  have:i=k:=by omega
  subst this
  obtain⟨h1,h2,h3⟩:=hv1 hw
  refine tgo hC Zqo Zlh ?_
  simp[-List.getD_eq_getElem?_getD,Zdh,hD,h1,h2,h3]
  omega
 |succ x ih=>
  intro i hi hw
  have hik:i<k:=by omega
  have hg:(cnW k bb bs (15*k)).getD i 0=(wgN k bb bs i:Int):=ZpV bb bs 15 i hik
  refine tgo hC Zqo Zlh ?_
  by_cases hw2:(wgN k bb bs i:Int)≤h
  ·have i0:=ih (i+1) (by omega) (fun j hj=>by
    by_cases e:j=i
    ·rw[e];exact hw2
    ·exact hw j (by omega))
   have hs:=ZAc (k:=k) bb bs (i+1)
   rw[ZnW]at hs
   rw[ZnW,Int.natCast_add]at i0
   simp[-List.getD_eq_getElem?_getD,Zdh,hD,hik,hg,hcl,show ¬h<(wgN k bb bs i:Int) by omega]at i0⊢
   exact⟨by omega,i0⟩
  ·rcases hv2 with⟨e1,e2⟩ |⟨e1,e2⟩
   ·simp[-List.getD_eq_getElem?_getD,Zdh,hD,hik,hg,hcl,show h<(wgN k bb bs i:Int) by omega,e1,e2]
   ·simp[-List.getD_eq_getElem?_getD,Zdh,hD,hik,hg,hcl,show h<(wgN k bb bs i:Int) by omega,e1,e2]
theorem ZOS(v:List Int)(c e:Int)(bb bs:List Int)(hb1:bb.length=60*k)(hb2:bs.length=60*k)(hv1:(∀j,j<k→(wgN k bb bs j:Int)≤h)→e=0∧v=d∧c=ZnW k bb bs k)(hv2:(e=27∧v=[])∨(e=0∧v.length=d.length)):
 ∀(x i:Nat),i+x=15*k→Ev C (Zkq m p q h D d v c e bb bs (cnW k bb bs i) i) (Zh8 m p q h D d v c e bb bs (cnW k bb bs i) i) (ZaI 11 (.bool true) none):=by
 have hk:=K.d1
 have hD:=K.hd
 intro x
 induction x with
 |zero=>
  intro i hi
  have:i=15*k:=by omega
  subst this
  have i0:=ZP7 hC m p q h D d n k K v c e bb bs hv1 hv2 k 0 (by omega) (fun j hj=>by omega)
  refine tgo hC Zqo Zmc ?_
  simp[-List.getD_eq_getElem?_getD,Zfj,hD,ZnW]at i0⊢
  exact⟨by omega,i0⟩
 |succ x ih=>
  intro i hi
  have hcl:=ZnK k bb bs i
  have i0:=ih (i+1) (by omega)
  rw[cnW]at i0
  have hmk:i%k<k:=Nat.mod_lt _ (by omega)
  have t0:(4:Int)*(i:Int)=((i*4:Nat):Int):=by omega
  have t1:((i*4:Nat):Int)+4=((i*4+4:Nat):Int):=by omega
  have t2:(i:Int).tmod (k:Int)=((i%k:Nat):Int):=rfl
  have es:∀l:List Int,std.sub3 l (i*4) (i*4+4-i*4)=paL 4 l i:=fun l=>ZpH l rfl rfl
  have hp:(paL 4 bb i).length=4:=ZcG (D:=15*k) (by omega) (by omega)
  have hb3:∀j:Nat,j<k→0≤(cnW k bb bs i).getD j 0∧(cnW k bb bs i).getD j 0≤60:=fun j hj=>by
   have ht:i=(i/k)*k+i%k:=by rw[Nat.mul_comm];exact(Nat.div_add_mod i k).symm
   have hg:=ZtB bb bs (i/k) (ZpV bb bs (i/k)) (i%k) (by omega) j hj
   rw[←ht]at hg
   have hq:i/k≤59:=by
    have:=Nat.div_le_self i k
    omega
   have hw:∀t,t≤60→wgT k bb bs j t≤60:=fun t ht=>by
    unfold wgT
    exact Nat.le_trans (List.length_filter_le _ _) (by simpa using ht)
   have:=hw (if j<i%k then i/k+1 else i/k) (by split<;>omega)
   omega
  have hb4:=hb3 (i%k) hmk
  refine tgo hC Zqo Zmc ?_
  by_cases hd:paL 4 bb i=paL 4 bs i
  ·rw[if_neg (fun a=>a hd)]at i0
   simp only[Zfj,Zp5,Zgd,ZaX,ZxQ,hD,t0,t1,Int.toNat_natCast,es,hd]
   simp[-List.getD_eq_getElem?_getD,show(i:Int)<15*(k:Int) by omega,hb1,hb2,←hd,hp]at i0⊢
   rw[hD]at i0
   exact⟨by omega,by omega,by omega,i0⟩
  ·rw[if_pos hd]at i0
   simp only[Zfj,Zp5,Zgd,ZaX,ZxQ,hD,t0,t1,t2,Int.toNat_natCast,es]
   simp[-List.getD_eq_getElem?_getD,show(i:Int)<15*(k:Int) by omega,hb1,hb2,hd,hp,hcl,hmk]at i0⊢
   rw[hD]at i0
   exact⟨by omega,by omega,by omega,i0⟩
include hv
theorem ZO9(a:List Int)(z:Int)(hz:1≤z∧z≤7)(ha:a.length≤10):∀(x i:Nat) (c:Int) (l:List Int),i+x=(Zbf m p q (biL (mxL h n d k))).length→l.length=i→0≤c→c≤i→c+spN a i ((Zbf m p q (biL (mxL h n d k))).drop i)=spN a 0 (Zbf m p q (biL (mxL h n d k)))→l++spL a z i ((Zbf m p q (biL (mxL h n d k))).drop i)=spL a z 0 (Zbf m p q (biL (mxL h n d k)))→
 Ev C (ZkI m p q h D d a z (Zbf m p q (biL (mxL h n d k))) (frI m p q) c i l) (ZhV m p q h D d a z (Zbf m p q (biL (mxL h n d k))) (frI m p q) c i l) (ZaI 11 (.bool true) none):=by
 have hm:=(Zap hv).1
 have hk:=K.d1
 have hD:=K.hd
 obtain⟨hbl,hbb⟩:=K.bs
 generalize hbs:biL (mxL h n d k)=bs at*
 have he:=Ze6 m p q bs
 have hXb:Zax (Zbf m p q bs)=true:=Zcf m p q _ 0
 intro x
 induction x with
 |zero=>
  intro i c l hi hll h0 h1 hn hsp
  rw[List.drop_of_length_le (by omega)]at hn hsp
  rw[spN,Int.add_zero]at hn
  rw[spL,List.append_nil]at hsp
  subst hn hsp
  have hsl:=Zjh a z (Zbf m p q bs) 0
  have ho:=ZtT hv (bs:=bs) (ats:=a) (by omega) hz
  have hso:=ZtT hv (bs:=bs) (ats:=[]) (sz:=1) (by omega) (by omega)
  have hz0:∀so,OkC m p q so→cdW m p q so=0:=fun so o=>by rw[ZFc];unfold cdE;rw[o.cv];simp[o.sf]
  have hfr:0<frI m p q:=by
   obtain⟨ws,f⟩:=Zt6 hv
   have:=f.r;omega
  have hn0:spN [] 0 (Zbf m p q bs)=0:=ZuK _ _
  have sg:=(Zos hv (ats:=[]) (sz:=1) (by omega) (by omega) hbb (by rw[hn0];omega)).1
  have sm:List.map (fun x=>1-2*x) (Zbf m p q bs)=spL [] 1 0 (Zbf m p q bs):=(ZtW _ _).symm
  have hlk:lkE m p q h D=0:=ZMo hv K
  have g:ZyO m p q h D (spL a z 0 (Zbf m p q bs))=true:=by
   have hr:ZaP (spL a z 0 (Zbf m p q bs)) (-7) 7=0:=by
    unfold ZaP
    rw[if_pos (Zqq a hz (Zbf m p q bs) 0 hXb)]
   unfold ZyO
   rw[hlk,hr]
   simp
   omega
  obtain⟨n',k',R⟩:=ZBh g
  have e1:k'=k:=by have:=R.hd;omega
  have e2:n'=n:=by have:=R.hn;have:=K.hn;omega
  subst e1 e2
  have hRl:=R.bl
  have hRb:=R.bb
  generalize hso2:spL a z 0 (Zbf m p q bs)=so at*
  have hnear:(∀j,j<k'→(wgN k' (blI m p q so) bs j:Int)≤h)→reE m p q h D so=0∧reV m p q h D so=d∧reN m p q h D so=ZnW k' (blI m p q so) bs k':=fun hw=>by
   have:=ZEo K hRl hRb k' 0 (by omega) (fun j _ hj=>by rw[hbs];exact hw j hj)
   rw[hbs,Nat.zero_mul,List.take_zero,ZnW]at this
   exact Zva g (R.dl.trans this)
  refine tgo hC Zqo Zk9 ?_
  have hsn:=Zt3 a (Zbf m p q bs) 0
  have hil:¬(i:Int)<(Zbf m p q bs).length:=by omega
  by_cases hd:2*spN a 0 (Zbf m p q bs)<frI m p q
  ·have w:=(Zos hv (ats:=a) (by omega) hz hbb hd).1
   rw[hso2]at w
   obtain⟨r1,r2,r3⟩:=hnear (fun j _=>by
    rw[w,ZvU]
    have:=of_decide_eq_true K.hb
    omega)
   rw[w,Zrr]at r3
   have hdl:d.length≤1000000:=by
    have:=K.hl
    have h2:k'*n'≤52:=Nat.mul_le_mul hk.2 K.n1.2
    omega
   simp[-List.getD_eq_getElem?_getD,Zc9,hil,hd,hsl,r1,r2,r3,hdl]
   omega
  ·have o1:=hz0 _ ho
   have o2:=hz0 _ hso
   have b1:blW m p q so=blI m p q so:=by unfold blW;rw[if_pos o1]
   have b2:blW m p q (spL [] 1 0 (Zbf m p q bs))=bs:=by unfold blW;rw[if_pos o2,sg]
   have hv2:(reE m p q h D so=27∧reV m p q h D so=[])∨(reE m p q h D so=0∧(reV m p q h D so).length=d.length):=by
    cases c:dlO m p q h D so with
    |none=>
     have:=ZCd g c
     exact .inl ⟨this.1,this.2.1⟩
    |some y=>
     obtain⟨y,w⟩:=y
     have r:=Zva g c
     refine .inr ⟨r.1,?_⟩
     have hq:=ZE0 R (by rw[c];rfl)
     have e3:dlV m p q h D so=y:=by unfold dlV;rw[c]
     rw[r.2.1,←e3,hq,K.hl]
   have i0:=ZOS hC m p q h D d n' k' K (reV m p q h D so) (reN m p q h D so) (reE m p q h D so) (blI m p q so) bs hRl hbl hnear hv2 (15*k') 0 (by omega)
   rw[cnW]at i0
   simp only[Zc9,sm,b1,b2]
   have hs1:=Zjh [] 1 (Zbf m p q bs) 0
   simp[-List.getD_eq_getElem?_getD,hil,hd,hsl,o1,o2,hXb,hbl,hRl,hD]at i0⊢
   exact⟨⟨by omega,by omega⟩,⟨by omega,by omega⟩,by omega,by omega,i0⟩
 |succ x ih=>
  intro i c l hi hll h0 h1 hn hsp
  have hlt:i<(Zbf m p q bs).length:=by omega
  have hlt2:(i:Int)<(Zbf m p q bs).length:=by omega
  rw[Zfk hlt]at hn hsp
  rw[spN]at hn
  rw[spL]at hsp
  have hx:(Zbf m p q bs).getD i 0=0∨(Zbf m p q bs).getD i 0=1:=Zcn hXb i
  refine tgo hC Zqo Zk9 ?_
  have hal:a.length≤1000000:=by omega
  by_cases hi2:(i:Int)∈a
  ·rw[if_pos hi2]at hn hsp
   have next:=ih (i+1) (c+1) (l++[-(z*(1-2*(Zbf m p q bs).getD i 0))]) (by omega) (by simp;omega) (by omega) (by omega) (by omega) (by rw[List.append_assoc];exact hsp)
   rcases hx with hx |hx<;>rw[hx]at next<;>simp[-List.getD_eq_getElem?_getD,Zc9,hlt,hlt2,hi2,hx,hal,AV.bx,Zag]at next⊢ <;>refine⟨?_,?_,next⟩<;>omega
  ·rw[if_neg hi2]at hn hsp
   have next:=ih (i+1) c (l++[z*(1-2*(Zbf m p q bs).getD i 0)]) (by omega) (by simp;omega) (by omega) (by omega) (by omega) (by rw[List.append_assoc];exact hsp)
   rcases hx with hx |hx<;>rw[hx]at next<;>simp[-List.getD_eq_getElem?_getD,Zc9,hlt,hlt2,hi2,hx,hal,AV.bx,Zag]at next⊢ <;>refine⟨?_,?_,next⟩<;>omega
end
theorem Zzs{m p q h D:Int}{d:List Int}(h1:lkE m p q h D=0)(h2:(d.length:Int)=daI h D):d.length≤1000000:=by
 obtain⟨_,_,q1,q2,q3,q4⟩:=Zn9 h1
 have b1:D*(15-2*h)≤4*13:=Int.mul_le_mul q4 (by omega) (by omega) (by omega)
 rw[Ztl]at h2
 omega
theorem Zqc(m p q h D:Int)(d a:List Int)(z:Int):Zai Try.prog 11 [.agg (.gen [.int .i64 m, .int .i64 p, .int .i64 q, .int .i64 h, .int .i64 D]), .list (.ints .i64 d), .agg (.gen [.list (.ints .i64 a), .int .i64 z])] (.bool true) none:=by
 refine start (ZDe m p q h D d a z) fun C hC=>tgo hC Zqo ZMi ?_
 by_cases h1:lkE m p q h D=0
 ·by_cases h2:(d.length:Int)=daI h D
  ·by_cases h3:ZaP d 0 15=0
   ·by_cases h4:(10:Int)<a.length
    ·simp[Zpa,h1,h2,h3,h4,Zzs h1 h2]
    ·cases h5:Zal z 1 7
     ·simp[Zpa,h1,h2,h3,h4,h5,Zzs h1 h2]
     ·have hz:=of_decide_eq_true h5
      have hv:=(Zn9 h1).1
      have hm:=(Zap hv).1
      have e0:snE m p q h D d=0:=by simp[snE,elE,ZaD,Zam,h1,h3,h2,Ztl]
      obtain⟨_,n,k,K⟩:=ZG7 (ZF1 e0)
      have ev:snV m p q h D d=Zbf m p q (biL (mxL h n d k)):=by unfold snV;rw[if_pos e0,K.sn]
      have hl:=ZGn K (m:=m) (p:=p) (q:=q)
      rw[K.sn]at hl
      have hk:=K.d1
      have hD:=K.hd
      have hb:Zax (Zbf m p q (biL (mxL h n d k)))=true:=Zcf m p q _ 0
      have hc:((Zbf m p q (biL (mxL h n d k))).length:Int)=cnI m D:=by rw[Zz0];omega
      have i0:=ZO9 hC m p q h D d n k K hv a z hz (by omega) (Zbf m p q (biL (mxL h n d k))).length 0 0 [] (by omega) rfl (by omega) (by omega) (by rw[List.drop_zero];omega) (by rw[List.drop_zero,List.nil_append])
      have hdl:=Zzs h1 h2
      simp[Zpa,h1,h2,h3,h4,h5,e0,ev,hv,hb,hc,hdl]at i0⊢
      exact⟨by omega,i0⟩
   ·simp[Zpa,h1,h2,h3,Zzs h1 h2]
  ·simp[Zpa,h1,h2]
 ·simp[Zpa,h1]
end Go.Proofs.Ytklbmkllepkjcaa
/- CodeThrough: for every input it returns true, and the arguments read as they did. No condition. -/
namespace Go.Proofs.Ytklbmkllepkjcaa
open Go.ChangeShapes Go.WideShapes Go.ChangeAt Go.RowKit
theorem sh11_0:ZxW Try.prog 8 78=some [.int .i64, .int .i64, .int .i64, .int .i64, .int .i64]:=by kernel_rfl
theorem sh11_1:ZxW Try.prog 8 25=some [.ints .i64]:=by kernel_rfl
theorem sh11_2:ZxW Try.prog 8 47=some [.ints .i64, .int .i64]:=by kernel_rfl
set_option maxRecDepth 100000 in
theorem law11(os:Os)(started:os.Started)(H:Type)(enc:TypeId×Value→H):
 ReturnsInHanded {} Try.checked os 11 .any (Rows.codeThroughSpec.pre6 enc Try.prog Try.f11 Rows.codeThroughRow.domain false) (Rows.codeThroughSpec.post enc Try.prog Try.f11 false true false false):=by
 refine returnsInHanded_of_change (C:=Try.checked) own started (by kernel_rfl) Try.func11
  (ChangeSpec.witness6 (enc:=enc) (C:=Try.checked) false ⟨#[], #[.agg #[.int .i64 0, .int .i64 0, .int .i64 0, .int .i64 0, .int .i64 0], .slice none 0 0, .agg #[.slice none 0 0, .int .i64 0]],[]⟩ 8 (by kernel_rfl) (by kernel_rfl) (by kernel_rfl) (by kernel_rfl)) ?_
 intro W base args ds gs before hval0 hW _ _
 have hval:∀(j:Nat) t v,Try.f11.params[j]? =some t→args[j]? =some v→Value.okWide Try.prog W .any base t v:=hval0
 have hW':=hW
 obtain⟨p,q,hA0,hV,rfl,_,_⟩:=hW
 have hA:DataW.TrodAll enc Try.prog W 0 (fun _=>true) true Try.f11.params.toList args.toList ds p:=hA0
 rw[Try.params11]at hA hval
 obtain⟨v0,v1,v2,d0,d1,d2,p0,p1,p2,rfl,rfl,rfl,h0,h1,h2⟩:=trodAll_three hA
 obtain⟨rfl,rfl⟩:=trodVars_none hV
 have hlt:∀x∈p0++(p1++p2),x.block<W.heap.size:=fun x hx=>by simpa using hW'.lt x (by simpa using hx)
 obtain⟨us0,r0,c0⟩:=ZAT (L:=⟨fun _ _=>0,fun _ _=>0⟩) sh11_0 (okWide_struct Try.underlying78 (hval 0 78 v0 rfl rfl)) h0
 obtain⟨m,g0,g1,hf,dp,rfl⟩:=ZBZ c0
 obtain⟨u1,r1,c1⟩:=ZHO (L:=⟨fun _ _=>0,fun _ _=>0⟩) sh11_1 (by obtain⟨a,l,c,rfl⟩:=okWide_slice Try.underlying25 (hval 1 25 v1 rfl rfl);rfl) h1
 obtain⟨d,rfl,_⟩:=Zuu c1
 obtain⟨us2,r2,c2⟩:=ZAT (L:=⟨fun _ _=>0,fun _ _=>0⟩) sh11_2 (okWide_struct Try.underlying47 (hval 2 47 v2 rfl rfl)) h2
 obtain⟨ats,sz,rfl⟩:=Zty c2
 refine(ZwN trivial (Zqc m g0 g1 hf dp d ats sz) (RelL.cons ( r0) (RelL.cons ( r1) (RelL.cons ( r2) RelL.nil)))).mono fun e W' ⟨he,hb⟩=>?_
 subst he
 refine⟨_,rfl,_,_,_,[],p0++(p1++p2),[],hW',trodAll_mk1 (shut_bool Try.underlying4 true),?_,rfl,hb.frame _,fun h=>by cases h⟩
 exact trodAll_mk3 (Below.trod ZpF (by kernel_rfl) (of_decide_eq_true (by kernel_rfl)) h0 hb (fun x hx=>hlt x (List.mem_append_left _ hx))) (Below.trod ZpF (by kernel_rfl) (of_decide_eq_true (by kernel_rfl)) h1 hb (fun x hx=>hlt x (List.mem_append_right _ (List.mem_append_left _ hx)))) (Below.trod ZpF (by kernel_rfl) (of_decide_eq_true (by kernel_rfl)) h2 hb (fun x hx=>hlt x (List.mem_append_right _ (List.mem_append_right _ hx))))
theorem n11 : Try.checked.prog.funcNamed "cassegrain/cassegrainlaw05.CodeThrough" = some 11 := by kernel_rfl
theorem j11:joinedFacts Try.checked.prog 11 Try.f11 Rows.codeThroughSpec Rows.codeThroughRow=true:=by kernel_rfl
theorem i11:Try.f11.isInstance Try.checked.prog Rows.codeThroughRow.origin Rows.codeThroughRow.targs:=of_decide_eq_true (by kernel_rfl)
theorem w11:Try.f11.isWrapper Try.checked.prog Rows.codeThroughRow.wrapper Rows.codeThroughRow.mainSum:=by
 unfold Func.isWrapper
 first |(rw [if_pos (by decide +kernel)];kernel_rfl) |(rw [if_neg (by decide +kernel)];exact⟨rfl,rfl⟩)
theorem CodeThrough_holds:Rows.CodeThroughSaid:=
 OpenClaim.holds_of_wide 11 Try.f11 rfl rfl rfl rfl rfl rfl rfl ⟨rfl,rfl,rfl,rfl,rfl⟩ rfl rfl rfl rfl rfl n11 Try.func11 j11 i11 w11 (fun os started H enc _=>law11 os started H enc)
#print axioms CodeThrough_holds
end Go.Proofs.Ytklbmkllepkjcaa
