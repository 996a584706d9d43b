/- Contracts as a list. No condition. -/
import Derived.Test.YtklbmkllepkjcaaGu7
import Derived.KernelRfl
namespace Go.Proofs.Ytklbmkllepkjcaa
theorem ZrC{m p q:Int}{so:List Int} :∀(j t:Nat) (s:Int),(tbR m p q so j t s).length=j∧ZbP (tbR m p q so j t s)=true
 |0,_,_=>⟨rfl,rfl⟩
 |j+1,t,s=>by
  rw[tbR]
  split
  ·have:=ZrC (m:=m) (p:=p) (q:=q) (so:=so) j (t+1) (nxS m s 0)
   exact⟨by rw[List.length_cons,this.1],ZgY (a:=[0]) rfl this.2⟩
  ·have:=ZrC (m:=m) (p:=p) (q:=q) (so:=so) j (t+1) (nxS m s 1)
   exact⟨by rw[List.length_cons,this.1],ZgY (a:=[1]) rfl this.2⟩
def neL(bs:List Int)(k:Nat):List Int:=(List.range k).map fun i=>nbI (paL 4 bs i) 0
theorem ZjG(bs:List Int)(k:Nat):(neL bs k).length=k:=by simp[neL]
theorem Zyo(bs:List Int)(k:Nat):neL bs (k+1)=neL bs k++[nbI (paL 4 bs k) 0]:=by simp[neL,List.range_succ]
theorem ZPX:∀l:List Int,l.length=4→ZbP l=true→0≤nbI l 0∧nbI l 0≤15
 |[a,b,c,e],_,hb=>by
  have h0:a=0∨a=1:=Zg0 hb 0
  have h1:b=0∨b=1:=Zg0 hb 1
  have h2:c=0∨c=1:=Zg0 hb 2
  have h3:e=0∨e=1:=Zg0 hb 3
  simp only[nbI]
  omega
theorem ZBh{l:List Int}(h:∀j,j<l.length→l.getD j 0=0∨l.getD j 0=1):ZbP l=true:=List.all_eq_true.2 fun x hx=>by
 obtain⟨j,hj,rfl⟩:=List.mem_iff_getElem.1 hx
 have:=h j hj
 rw[List.getD_eq_getElem?_getD,List.getElem?_eq_getElem hj]at this
 exact decide_eq_true this
theorem ZsC{n:Nat}{l:List Int}(h:ZbP l=true)(i:Nat):ZbP (paL n l i)=true:=ZBh fun j hj=>by
 have hj2:j<n:=by unfold paL at hj;rw[List.length_take]at hj;omega
 rw[ZvM hj2]
 exact Zg0 h _
theorem ZJx{bs:List Int}{k:Nat}(hb:ZbP bs=true)(hl:bs.length=k*4):ZaM (neL bs k) 0 15=0:=ZfY fun j hj=>by
 rw[ZjG]at hj
 have:=ZPX _ (Zlt hl hj) (ZsC hb j)
 have e:(neL bs k).getD j 0=nbI (paL 4 bs j) 0:=by simp[neL,hj]
 rw[e]
 exact decide_eq_true this
def dlR(h:Int)(al:List Int)(n:Nat):Nat→Nat→List Int→Int→Option (List Int×Int)
 |0,_,out,c=>some (out,c)
 |k+1,i,out,c=>if(deO h (paL 15 al i)).isSome=true then dlR h al n k (i+1) (out++(deV h (paL 15 al i)).take n) (c+deN h (paL 15 al i))else none
def alL(m p q:Int)(so:List Int)(d:Nat):List Int:=tS (neL (blI m p q so) (15*d)) 15
@[irreducible] def dlO (m p q h D:Int) (so:List Int):Option (List Int×Int):=dlR h (alL m p q so D.toNat) (15-2*h).toNat D.toNat 0 [] 0
@[irreducible] def dlV (m p q h D:Int) (so:List Int):List Int:=match dlO m p q h D so with |none=>[] |some (x,_)=>x
@[irreducible] def dlN (m p q h D:Int) (so:List Int):Int:=match dlO m p q h D so with |none=>0 |some (_,z)=>z
def ZvD(m p q h D:Int)(so:List Int):Bool:=decide (lkE m p q h D=0)&&(decide ((so.length:Int)=2*(4*D*15+m))&&decide (ZaM so (-7) 7=0))
structure RcK (m p q h D:Int) (so:List Int) (n d:Nat):Prop where
 hb:hfB h=true
 hd:D=d
 d1:1≤d∧d≤4
 hn:(n:Int)=15-2*h
 n1:9≤n∧n≤13
 ok:okI m p q so=true
 bl:(blI m p q so).length=60*d
 bb:ZbP (blI m p q so)=true
 sl:so.length≤1000
theorem ZvI{m p q h D:Int}{so:List Int}(g:ZvD m p q h D so=true):∃n d,RcK m p q h D so n d:=by
 unfold ZvD at g
 rw[Bool.and_eq_true,Bool.and_eq_true]at g
 obtain⟨g1,g2,g3⟩:=g
 have g1:=of_decide_eq_true g1
 have g2:=of_decide_eq_true g2
 have g3:=of_decide_eq_true g3
 obtain⟨e1,e2,h1,h2,h3,h4⟩:=ZsF g1
 have hm:=(Zaz e1).1
 obtain⟨d,rfl⟩:=Int.eq_ofNat_of_zero_le (show 0≤D by omega)
 obtain⟨n,hn⟩:=Int.eq_ofNat_of_zero_le (show 0≤15-2*h by omega)
 have e3:sfE m so=0:=by
  unfold sfE
  rw[if_neg (by omega),if_neg (by omega)];exact g3
 obtain⟨t1,t2⟩:=ZrC (m:=m) (p:=p) (q:=q) (so:=so) (Zb4 m so) 0 0
 refine⟨n,d,e2,rfl,by omega,by omega,by omega,by unfold okI;rw[e1,e3];rfl,?_,t2,by omega⟩
 show(tbR m p q so (Zb4 m so) 0 0).length=_
 rw[t1];unfold Zb4;omega
section
variable {m p q h D:Int}{so:List Int}{n d:Nat}(K:RcK m p q h D so n d)
include K
theorem RcK.ne:ZaM (neL (blI m p q so) (15*d)) 0 15=0:=ZJx K.bb (by rw[K.bl];omega)
theorem RcK.al:(alL m p q so d).length=d*15∧ZaM (alL m p q so d) 0 15=0:=⟨by rw[alL,Zyh,ZjG];omega,ZCA K.ne⟩
theorem RcK.wd{i:Nat}(hi:i<d):okw (paL 15 (alL m p q so d) i)=true:=okw_iff.2 ⟨Zlt K.al.1 hi,ZxW K.al.2 i⟩
theorem RcK.de{i:Nat}(hi:i<d)(hs:(deO h (paL 15 (alL m p q so d) i)).isSome=true):(deV h (paL 15 (alL m p q so d) i)).length=15∧0≤deN h (paL 15 (alL m p q so d) i)∧deN h (paL 15 (alL m p q so d) i)≤3:=by
 obtain⟨a,_,b,c⟩:=ZHL (K.wd hi) K.hb hs
 have q:=of_decide_eq_true K.hb
 refine⟨(okw_iff.1 a).1,?_,by omega⟩
 rw[b]
 exact(Zpu _ _).1
theorem RcK.rc:rcB (neL (blI m p q so) (15*d)) D=true:=by
 have h1:=K.d1
 refine decide_eq_true ?_
 rw[K.hd,ZjG,Int.toNat_natCast,Nat.mul_div_cancel _ (by omega)]
 exact⟨by omega,by omega,by omega,by omega,rfl⟩
theorem RcK.dl:dlO m p q h D so=dlR h (alL m p q so d) n d 0 [] 0:=by
 unfold dlO
 rw[←K.hn,K.hd,Int.toNat_natCast,Int.toNat_natCast]
end
def dlA:Option (List Int×Int)→AV
 |none=>.tup [.list (.ints .i64 []), .int .i64 0, .bool false]
 |some (x,z)=>.tup [.list (.ints .i64 x), .int .i64 z, .bool true]
theorem ZMC(m p q h D:Int)(so:List Int):dlA (dlO m p q h D so)=.tup [.list (.ints .i64 (dlV m p q h D so)), .int .i64 (dlN m p q h D so), .bool (dlO m p q h D so).isSome]:=by
 unfold dlV dlN
 cases dlO m p q h D so with
 |none=>rfl
 |some x=>rfl
section
variable {C:Ctx}(hC:C.P=Try.prog)(m p q h D:Int)(so:List Int)(n d:Nat)(K:RcK m p q h D so n d)
include hC K
theorem ZVY:∀(k i:Nat) (c:Int) (out:List Int),i+k=d→0≤c→c≤3*i→out.length≤13*i→Ev C (ZkF m p q h D (alL m p q so d) c i out) (ZiP m p q h D (alL m p q so d) c i out) (ZmA 56 (dlA (dlR h (alL m p q so d) n k i out c))):=by
 have hd:=K.d1
 have hD:=K.hd
 have hn:=K.hn
 have hn1:=K.n1
 have hb:=K.hb
 have hl:=K.al.1
 have qh:=of_decide_eq_true hb
 intro k
 induction k with
 |zero=>
  intro i c out hi h0 h1 ho
  refine Zhv hC ZbI ZoC ?_
  simp[ZfI,hD,show ¬(i:Int)<(d:Int) by omega,dlR,dlA]
  exact⟨_, .same _, .tup ⟨.row _ rfl rfl rfl, .same _ rfl rfl, .same _ rfl rfl,trivial⟩,rfl⟩
 |succ k ih=>
  intro i c out hi h0 h1 ho
  have hid:i<d:=by omega
  have hle:i*15+15≤(alL m p q so d).length:=by rw[hl];omega
  have t1:((i:Int)*15)=((i*15:Nat):Int):=by omega
  have t2:(((i:Int)+1)*15)=((i*15+15:Nat):Int):=by omega
  have es:std.sub3 (alL m p q so d) (i*15) (i*15+15-i*15)=paL 15 (alL m p q so d) i:=Zk7 _ rfl rfl
  have hw:=K.wd hid
  have hr:=ZEl hw hb
  rw[dlR]
  refine Zhv hC ZbI ZoC ?_
  cases hs:(deO h (paL 15 (alL m p q so d) i)).isSome
  ·rw[hs]at hr
   simp only[ZfI,Zjn,ZcU,ZaF,t1,t2,Int.toNat_natCast,es,hw,hr]
   simp[hD,hid,hb,dlA]
   exact⟨by omega,_, .same _, .tup ⟨.nil _ rfl, .same _ rfl rfl, .same _ rfl rfl,trivial⟩,rfl⟩
  ·rw[hs]at hr
   obtain⟨v1,v2⟩:=ZIY hw hb hs
   obtain⟨w1,w2,w3⟩:=K.de hid hs
   have i0:=ih (i+1) (c+deN h (paL 15 (alL m p q so d) i)) (out++(deV h (paL 15 (alL m p q so d) i)).take n) (by omega) (by omega) (by omega) (by rw[List.length_append,List.length_take];omega)
   have t3:(15-2*h).toNat=n:=by omega
   have e3:std.sub3 (deV h (paL 15 (alL m p q so d) i)) 0 (n-0)=(deV h (paL 15 (alL m p q so d) i)).take n:=rfl
   simp only[ZfI,Zjn,ZcU,ZhX,ZaF,t1,t2,Int.toNat_natCast,es,hw,hr,v1,v2,t3,e3]
   simp[hD,hid,hb,w1]at i0⊢
   exact⟨by omega,by omega,i0⟩
theorem ZUY:∀(k i:Nat),i+k=15*d→Ev C (Zmt m p q h D (blI m p q so) ((i*4:Nat):Int) (neL (blI m p q so) i)) (Zik m p q h D (blI m p q so) ((i*4:Nat):Int) (neL (blI m p q so) i)) (ZmA 56 (dlA (dlO m p q h D so))):=by
 have hd:=K.d1
 have hD:=K.hd
 have hl:=K.bl
 have hdl:=K.dl
 intro k
 induction k with
 |zero=>
  intro i hi
  have:i=15*d:=by omega
  subst this
  have i0:=ZVY hC m p q h D so n d K d 0 0 [] (by omega) (by omega) (by omega) (by simp)
  have rc:=K.rc
  have e1:Nat.div (neL (blI m p q so) (15*d)).length (Int.toNat D)=15:=by
   rw[ZjG,hD,Int.toNat_natCast];exact Nat.mul_div_cancel _ (by omega)
  rw[hdl]
  refine Zhv hC ZbI ZoF ?_
  simp only[Zjv,e1]
  simp[rc,hl,alL]at i0⊢
  refine⟨by omega,?_⟩
  rw[if_neg (by omega)]
  exact i0
 |succ k ih=>
  intro i hi
  have i0:=ih (i+1) (by omega)
  have es:std.sub3 (blI m p q so) (i*4) (i*4+4-i*4)=paL 4 (blI m p q so) i:=Zk7 _ rfl rfl
  have hpl:(paL 4 (blI m p q so) i).length=4:=Zlt (D:=15*d) (by rw[hl];omega) (by omega)
  have hpb:=ZsC (n:=4) K.bb i
  have hle:i*4+4≤(blI m p q so).length:=by omega
  have t2:((i*4:Nat):Int)+4=((i*4+4:Nat):Int):=by omega
  have t4:(i+1)*4=i*4+4:=by omega
  rw[Zyo,t4]at i0
  have nl:=ZjG (blI m p q so) i
  generalize i*4=j at*
  refine Zhv hC ZbI ZoF ?_
  simp only[Zjv,ZcU,ZaF,t2,Int.toNat_natCast,es]
  simp[hpl,hpb,hle,nl,AV.bx,Zag]at i0⊢
  refine⟨by omega,?_⟩
  rw[if_pos (by omega)]
  exact⟨by omega,i0⟩
end
theorem Zzo(m p q h D:Int)(so:List Int)(g:ZvD m p q h D so=true):Zaj Try.prog 56 [.agg (.gen [.int .i64 m, .int .i64 p, .int .i64 q, .int .i64 h, .int .i64 D]), .list (.ints .i64 so)] (.tup [.list (.ints .i64 (dlV m p q h D so)), .int .i64 (dlN m p q h D so), .bool (dlO m p q h D so).isSome]) Zst:=by
 obtain⟨n,d,K⟩:=ZvI g
 have ok:=K.ok
 refine Zuh (ZHA m p q h D so) fun C hC=>Zhv hC ZbI ZSM ?_
 have i:=ZUY hC m p q h D so n d K (15*d) 0 (by omega)
 rw[ZMC]at i
 simp[ZOe,ok,neL]at i⊢
 exact i
theorem ZL7{a b:Int}(h:0≤a∧a≤7)(hb:b=0∨b=1):std.bits Go.BinOp.or .i64 (std.shl a 1) b=2*a+b:=by
 obtain⟨k,rfl⟩:=Int.eq_ofNat_of_zero_le h.1
 have:=(by decide:∀x:Fin 8,std.bits Go.BinOp.or .i64 (std.shl (x.val:Int) 1) 0=2*(x.val:Int)+0∧std.bits Go.BinOp.or .i64 (std.shl (x.val:Int) 1) 1=2*(x.val:Int)+1) ⟨k,by omega⟩
 rcases hb with rfl |rfl
 ·exact this.1
 ·exact this.2
theorem Zt3{l:List Int}{n i:Nat}(h:i*n+n≤l.length):std.add ((i*n:Nat):Int) (std.min (n:Int) (std.int (std.len (std.sub3 l (i*n) (std.len l-i*n)))))=((i*n+n:Nat):Int):=by
 have t0:(std.sub3 l (i*n) (l.length-i*n)).length=l.length-i*n:=by
  show((l.drop (i*n)).take _).length=_
  rw[List.length_take,List.length_drop];omega
 simp only[Za2,Zcq,t0,ZcU]
 show _+min _ _=_
 omega
section
variable {C:Ctx}(hC:C.P=Try.prog)(m p q h D:Int)
include hC
theorem ZUi(r:AV)(l0 l1 l2 l3 l4:List Int)(n5:Int)(l6 l7:List Int)(n9 n10 n11 n12 n13:Int)(l14:List Int)(hl:l7.length=4)(hb:ZbP l7=true)(h5:0≤n5∧n5≤1000)(h6:l6.length≤1000)
 (hn:Ev C (ZfJ m p q h D l0 l1 l2 l3 l4 (n5+4) (l6++[nbI l7 0])) (ZdZ m p q h D l0 l1 l2 l3 l4 (n5+4) (l6++[nbI l7 0])) (ZmA 49 r)):∀(k j:Nat) (a:Int),j+k=4→0≤a→a<2^j→nbI (l7.drop j) a=nbI l7 0→
 Ev C (Zlp m p q h D l0 l1 l2 l3 l4 n5 l6 l7 4 n9 n10 n11 n12 n13 l14 a j) (Zib m p q h D l0 l1 l2 l3 l4 n5 l6 l7 4 n9 n10 n11 n12 n13 l14 a j) (ZmA 49 r):=by
 intro k
 induction k with
 |zero=>
  intro j a hj h0 h1 e
  rw[List.drop_of_length_le (by omega),nbI]at e
  subst e
  refine Zhv hC ZbI Znc ?_
  simp[ZhG,show ¬(j:Int)<4 by omega,AV.bx,Zag]at hn⊢
  exact⟨by omega,by omega,hn⟩
 |succ k ih=>
  intro j a hj h0 h1 e
  have hlt:j<l7.length:=by omega
  have hbj:=Zg0 hb j
  rw[ZdV hlt,nbI]at e
  have hp:(2:Int)^(j+1)=2*2^j:=by rw[Int.pow_succ];omega
  have hq:(2:Int)^j≤8:=by
   have:(2:Nat)^j≤2^3:=Nat.pow_le_pow_right (by decide) (by omega)
   exact_mod_cast this
  have i0:=ih (j+1) (2*a+l7.getD j 0) (by omega) (by omega) (by omega) e
  have o:=ZL7 (a:=a) ⟨h0,by omega⟩ hbj
  have hs:std.shl a 1=2*a:=by show a*2^(1:Int).toNat=2*a;have:(2:Int)^(1:Int).toNat=2:=rfl;rw[this];omega
  rw[hs]at o
  refine Zhv hC ZbI Znc ?_
  simp only[ZhG,hs,ZaV,ZaF,Int.toNat_natCast,o]
  simp[-List.getD_eq_getElem?_getD,show(j:Int)<4 by omega,hl,show j<4 by omega]at i0⊢
  exact⟨by omega,i0⟩
variable (so:List Int)(n d:Nat)(K:RcK m p q h D so n d)
include K
theorem ZUP:∀(k i:Nat) (c:Int) (out:List Int),i+k=d→0≤c→c≤3*i→out.length≤13*i→Ev C (ZiU m p q h D (alL m p q so d) ((i*15:Nat):Int) c out) (ZfU m p q h D (alL m p q so d) ((i*15:Nat):Int) c out) (ZmA 49 (match dlR h (alL m p q so d) n k i out c with |none=>.tup [.list (.ints .i64 []), .int .i64 0, .int .i64 27] |some (x,z)=>.tup [.list (.ints .i64 x), .int .i64 z, .int .i64 0])):=by
 have hd:=K.d1
 have hn:=K.hn
 have hn1:=K.n1
 have hb:=K.hb
 have hl:=K.al.1
 have qh:=of_decide_eq_true hb
 intro k
 induction k with
 |zero=>
  intro i c out hi h0 h1 ho
  have t3:¬((i*15:Nat):Int)<(d*15:Nat):=by omega
  refine Zhv hC ZbI Zgh ?_
  simp only[Zd0,ZBs,Zcq,Za2,hl,decide_eq_false t3]
  simp[dlR]
  exact⟨_, .same _, .tup ⟨.row _ rfl rfl rfl, .same _ rfl rfl, .same _ rfl rfl,trivial⟩,rfl⟩
 |succ k ih=>
  intro i c out hi h0 h1 ho
  have hid:i<d:=by omega
  have hle:i*15+15≤(alL m p q so d).length:=by rw[hl];omega
  have es:std.sub3 (alL m p q so d) (i*15) 15=paL 15 (alL m p q so d) i:=rfl
  have hch:std.add ((i*15:Nat):Int) (std.min 15 (std.int (std.len (std.sub3 (alL m p q so d) (i*15) (std.len (alL m p q so d)-i*15)))))=((i*15+15:Nat):Int):=Zt3 (n:=15) hle
  have hw:=K.wd hid
  have t3:((i*15:Nat):Int)<((alL m p q so d).length:Int):=by omega
  rw[dlR]
  cases hs:(deO h (paL 15 (alL m p q so d) i)).isSome
  ·refine Zhv hC ZbI Zgh ?_
   have hdl:(deV h (paL 15 (alL m p q so d) i)).length=15:=by
    have:deO h (paL 15 (alL m p q so d) i)=none:=by simpa using hs
    unfold deV;rw[this];rfl
   generalize i*15=j at*
   simp only[Zd0,hch,ZaF,Int.toNat_natCast,es,hw,hs]
   simp[t3,hb,hdl]
   exact⟨by omega,_, .same _, .tup ⟨.nil _ rfl, .same _ rfl rfl, .same _ rfl rfl,trivial⟩,rfl⟩
  ·obtain⟨w1,w2,w3⟩:=K.de hid hs
   have i0:=ih (i+1) (c+deN h (paL 15 (alL m p q so d) i)) (out++(deV h (paL 15 (alL m p q so d) i)).take n) (by omega) (by omega) (by omega) (by rw[List.length_append,List.length_take];omega)
   have t5:(15-2*h).toNat=n:=by omega
   have e3:std.sub3 (deV h (paL 15 (alL m p q so d) i)) 0 (n-0)=(deV h (paL 15 (alL m p q so d) i)).take n:=rfl
   have t6:(((i+1)*15:Nat):Int)=((i*15:Nat):Int)+15:=by omega
   have hj:i*15≤60:=by omega
   rw[t6]at i0
   refine Zhv hC ZbI Zgh ?_
   generalize i*15=j at*
   simp only[Zd0,hch,ZaF,ZhX,Zjn,Int.toNat_natCast,es,hw,hs,t5,e3]
   simp[t3,hb,w1]at i0⊢
   exact⟨by omega,by omega,by omega,i0⟩
theorem ZVd(l0 l1 l2 l3:List Int):∀(k i:Nat),i+k=15*d→Ev C (ZfJ m p q h D l0 l1 l2 l3 (blI m p q so) ((i*4:Nat):Int) (neL (blI m p q so) i)) (ZdZ m p q h D l0 l1 l2 l3 (blI m p q so) ((i*4:Nat):Int) (neL (blI m p q so) i)) (ZmA 49 (match dlO m p q h D so with |none=>.tup [.list (.ints .i64 []), .int .i64 0, .int .i64 27] |some (x,z)=>.tup [.list (.ints .i64 x), .int .i64 z, .int .i64 0])):=by
 have hd:=K.d1
 have hD:=K.hd
 have hl:=K.bl
 intro k
 induction k with
 |zero=>
  intro i hi
  have:i=15*d:=by omega
  subst this
  have i0:=ZUP hC m p q h D so n d K d 0 0 [] (by omega) (by omega) (by omega) (by simp)
  have e1:((15*d:Nat):Int).tdiv (d:Int)=15:=by
   have:((15*d:Nat):Int).tdiv (d:Int)=((15*d/d:Nat):Int):=rfl
   rw[this,Nat.mul_div_cancel _ (by omega)];rfl
  have rc:rcB (neL (blI m p q so) (15*d)) 15=true:=by
   refine decide_eq_true ?_
   rw[ZjG]
   show _∧_∧_∧_∧15*d/15*15=_
   omega
  have t3:¬((15*d*4:Nat):Int)<(60*d:Nat):=by omega
  rw[K.dl]
  rw[hD]at i0
  refine Zhv hC ZbI Zmg ?_
  simp only[Zf4,ZBs,Zcq,Za2,hl,decide_eq_false t3,ZjG,Zl1,hD,e1,rc]
  simp[alL]at i0⊢
  exact⟨by omega,i0⟩
 |succ k ih=>
  intro i hi
  have i0:=ih (i+1) (by omega)
  have es:std.sub3 (blI m p q so) (i*4) (i*4+4-i*4)=paL 4 (blI m p q so) i:=Zk7 _ rfl rfl
  have hpl:(paL 4 (blI m p q so) i).length=4:=Zlt (D:=15*d) (by rw[hl];omega) (by omega)
  have hpb:=ZsC (n:=4) K.bb i
  have hle:i*4+4≤(blI m p q so).length:=by omega
  have hch:std.add ((i*4:Nat):Int) (std.min 4 (std.int (std.len (std.sub3 (blI m p q so) (i*4) (std.len (blI m p q so)-i*4)))))=((i*4+4:Nat):Int):=Zt3 (n:=4) hle
  have t3:((i*4:Nat):Int)<((blI m p q so).length:Int):=by omega
  have t4:(((i+1)*4:Nat):Int)=((i*4:Nat):Int)+4:=by omega
  rw[Zyo,t4]at i0
  have nl:=ZjG (blI m p q so) i
  have i1:=fun n9 n10 n11 n12 n13 l14=>ZUi hC m p q h D _ l0 l1 l2 l3 (blI m p q so) ((i*4:Nat):Int) (neL (blI m p q so) i) (paL 4 (blI m p q so) i) n9 n10 n11 n12 n13 l14 hpl hpb (by omega) (by omega) i0 4 0 0 (by omega) (by omega) (by decide) (by rw[List.drop_zero])
  refine Zhv hC ZbI Zmg ?_
  generalize i*4=j at*
  simp only[Zf4,hch,ZaF,Int.toNat_natCast,es]
  simp only[Za2,hpl,Zcq]
  simp[t3]at i1⊢
  refine⟨by omega,?_⟩
  exact i1 _ _ _ _ _ _
end
def reE(m p q h D:Int)(so:List Int):Int:=ZaE [lkE m p q h D,Zau (decide ((so.length:Int)=2*(4*D*15+m))) 10,ZaM so (-7) 7,if(dlO m p q h D so).isSome=true then 0 else 27]
@[irreducible] def reV (m p q h D:Int) (so:List Int):List Int:=if reE m p q h D so=0 then dlV m p q h D so else []
@[irreducible] def reN (m p q h D:Int) (so:List Int):Int:=if reE m p q h D so=0 then dlN m p q h D so else 0
theorem Zzz(m p q h D:Int)(so:List Int)(hl:so.length≤1000000):Zaj Try.prog 49 [.agg (.gen [.int .i64 m, .int .i64 p, .int .i64 q, .int .i64 h, .int .i64 D]), .list (.ints .i64 so)] (.tup [.list (.ints .i64 (reV m p q h D so)), .int .i64 (reN m p q h D so), .int .i64 (reE m p q h D so)]) Zst:=by
 refine Zuh (ZHF m p q h D so) fun C hC=>Zhv hC ZbI ZQg ?_
 by_cases h1:lkE m p q h D=0
 ·obtain⟨hv,hb,q1,q2,q3,q4⟩:=ZsF h1
  have hm:=(Zaz hv).1
  by_cases h2:(so.length:Int)=2*(D*15*4+m)
  ·have h2':(so.length:Int)=2*(4*D*15+m):=by omega
   by_cases h3:ZaM so (-7) 7=0
   ·obtain⟨n,d,K⟩:=ZvI (m:=m) (p:=p) (q:=q) (h:=h) (D:=D) (so:=so) (by unfold ZvD;simp[h1,h2',h3])
    have i:=ZVd hC m p q h D so n d K (blI m p q so) (blI m p q so) (blI m p q so) (blI m p q so) (15*d) 0 (by omega)
    have ok:=K.ok
    have ev:(AV.tup [.list (.ints .i64 (reV m p q h D so)), .int .i64 (reN m p q h D so), .int .i64 (reE m p q h D so)])=(match dlO m p q h D so with |none=>.tup [.list (.ints .i64 []), .int .i64 0, .int .i64 27] |some (x,z)=>.tup [.list (.ints .i64 x), .int .i64 z, .int .i64 0]):=by
     unfold reV reN dlV dlN reE
     cases dlO m p q h D so with
     |none=>simp[ZaE,Zau,h1,h2',h3]
     |some x=>simp[ZaE,Zau,h1,h2',h3]
    rw[ev]
    simp[Zx2,h1,h2,h3,Zau,ZaE,hl,ok,neL,AV.bx,Zag]at i⊢
    exact⟨by omega,i⟩
   ·have e0:reE m p q h D so=ZaM so (-7) 7:=by simp[reE,ZaE,Zau,h1,h2',h3]
    have ev:reV m p q h D so=[]:=by unfold reV;rw[if_neg (by rw[e0];exact h3)]
    have en:reN m p q h D so=0:=by unfold reN;rw[if_neg (by rw[e0];exact h3)]
    simp[Zx2,h1,h2,h3,Zau,ZaE,hl,ev,en,e0,AV.bx,Zag]
    exact⟨by omega,_, .same _, .tup ⟨.nil _ rfl, .same _ rfl rfl, .same _ rfl rfl,trivial⟩,rfl⟩
  ·have h2':¬(so.length:Int)=2*(4*D*15+m):=by omega
   have e0:reE m p q h D so=10:=by simp[reE,ZaE,Zau,h1,h2']
   have ev:reV m p q h D so=[]:=by unfold reV;rw[if_neg (by rw[e0];decide)]
   have en:reN m p q h D so=0:=by unfold reN;rw[if_neg (by rw[e0];decide)]
   simp[Zx2,h1,h2,Zau,ZaE,hl,ev,en,e0,AV.bx,Zag]
   exact⟨by omega,_, .same _, .tup ⟨.nil _ rfl, .same _ rfl rfl, .same _ rfl rfl,trivial⟩,rfl⟩
 ·have e0:reE m p q h D so=lkE m p q h D:=by simp[reE,ZaE,h1]
  have ev:reV m p q h D so=[]:=by unfold reV;rw[if_neg (by rw[e0];exact h1)]
  have en:reN m p q h D so=0:=by unfold reN;rw[if_neg (by rw[e0];exact h1)]
  simp[Zx2,h1,ev,en,e0]
  exact⟨_, .same _, .tup ⟨.nil _ rfl, .same _ rfl rfl, .same _ rfl rfl,trivial⟩,rfl⟩
def k56:Ctr:=⟨56,0,fun _ a=>match a with |[.agg (.gen [.int .i64 m, .int .i64 p, .int .i64 q, .int .i64 h, .int .i64 D]), .list (.ints .i64 so)]=>some (decide (ZvD m p q h D so=true), .tup [.list (.ints .i64 (dlV m p q h D so)), .int .i64 (dlN m p q h D so), .bool (dlO m p q h D so).isSome],Zst) |_=>none⟩
theorem ZOj:k56.OK Try.prog:=fun pa args r fr h=>by
 simp only[k56]at h
 split at h
 ·simp only[Option.some.injEq,Prod.mk.injEq,decide_eq_true_eq]at h
  obtain⟨h0,rfl,rfl⟩:=h
  exact Zzo _ _ _ _ _ _ h0
 ·cases h
def k49:Ctr:=⟨49,0,fun _ a=>match a with |[.agg (.gen [.int .i64 m, .int .i64 p, .int .i64 q, .int .i64 h, .int .i64 D]), .list (.ints .i64 so)]=>some (decide (so.length≤1000000), .tup [.list (.ints .i64 (reV m p q h D so)), .int .i64 (reN m p q h D so), .int .i64 (reE m p q h D so)],Zst) |_=>none⟩
theorem ZOs:k49.OK Try.prog:=fun pa args r fr h=>by
 simp only[k49]at h
 split at h
 ·simp only[Option.some.injEq,Prod.mk.injEq,decide_eq_true_eq]at h
  obtain⟨h0,rfl,rfl⟩:=h
  exact Zzz _ _ _ _ _ _ h0
 ·cases h
def Kq:List Ctr:=[k56,k49]++Kp
theorem ZRX:Zay Try.prog Kq:=⟨ZOj,⟨ZOs,ZQX⟩⟩
end Go.Proofs.Ytklbmkllepkjcaa
/- Paths of functions, printed by the explorer (Gx). No condition. -/
namespace Go.Proofs.Ytklbmkllepkjcaa
set_option maxRecDepth 100000
set_option linter.unusedVariables false
def ZK8(m p q h D:Int)(d s:List Int):AFrame:=vF 10 156 [(0,AV.agg (Row.gen [.int .i64 m, .int .i64 p, .int .i64 q, .int .i64 h, .int .i64 D])),vL 1 d,vL 2 s] [.code a10.code] [.tmp 6]
def ZUH(m p q h D:Int)(d s:List Int):List AFrame:=[(ZK8 m p q h D d s)]
theorem ZFZ(m p q h D:Int)(d s:List Int):Zal tab 10 [AV.agg (Row.gen [.int .i64 m, .int .i64 p, .int .i64 q, .int .i64 h, .int .i64 D]),AV.list (.ints .i64 d),AV.list (.ints .i64 s)]=some (ZK8 m p q h D d s):=rfl
def Zxr(A:Ar)(K:KT)(F:FT)(m p q h D:Int)(d s:List Int):Prop:=let u5:=A.int (A.len (reV m p q h D s));let u0:=bB (A.eq u5 0) (F (AV.bool (A.eq (reN m p q h D s) 0)) none) False;let u1:=rB [A.not (A.eq 10 0)] (bB (A.eq (reE m p q h D s) 10) u0 False);let u2:=bB (A.eq (reE m p q h D s) (ZaM s (-7) 7)) u0 False;let u3:=A.int (A.len (snV m p q h D d));let u4:=bB (A.eq (reE m p q h D s) 27) u0 False;let u6:=A.int (A.len s);rB [!A.not true] (bB (A.lt 60 (A.int (A.len d))) (F (AV.bool true) none) (bB (A.lt 500 u6) (F (AV.bool true) none) (rB [decide (List.length s≤1000000),decide (List.length s≤1000000),decide (List.length d≤1000000),decide (List.length d≤1000000)] (bB (A.not (A.eq (lkE m p q h D) (lkE m p q h D))) False (bB (A.not (A.eq (lkE m p q h D) 0)) (bB (A.eq (snE m p q h D d) (lkE m p q h D)) (bB (A.eq (reE m p q h D s) (lkE m p q h D)) (rB [A.inR .i64 (A.add u3 u5)] (bB (A.eq (A.add u3 u5) 0) (F (AV.bool (A.eq (reN m p q h D s) 0)) none) False)) False) False) (rB [decide (lkE m p q h D=0)] (bB (A.not (A.eq (A.int (A.len d)) (daI h D))) (rB [A.not (A.eq 10 0)] (bB (A.not (A.eq (snE m p q h D d) 10)) False (bB (A.not (A.eq u3 0)) False (rB [!A.eq 10 0] (rB [decide (lkE m p q h D=0)] (bB (A.not (A.eq u6 (cnI m D))) u1 (rB [decide (List.length s≤1000000)] (bB (A.not (A.eq (ZaM s (-7) 7) 0)) u2 (rB [decide (ZvD m p q h D s=true)] (bB (Option.isSome (dlO m p q h D s)) (bB (A.eq (reE m p q h D s) 0) (rB [decide (List.length (reV m p q h D s)≤1000000)] (bB (decide (reV m p q h D s=dlV m p q h D s)) (F (AV.bool (A.eq (reN m p q h D s) (dlN m p q h D s))) none) False)) False) u4)))))))))) (rB [decide (List.length d≤1000000)] (bB (A.not (A.eq (ZaM d 0 15) 0)) (bB (A.not (A.eq (snE m p q h D d) (ZaM d 0 15))) False (bB (A.not (A.eq u3 0)) False (rB [!A.eq (ZaM d 0 15) 0] (rB [decide (lkE m p q h D=0)] (bB (A.not (A.eq u6 (cnI m D))) u1 (rB [decide (List.length s≤1000000)] (bB (A.not (A.eq (ZaM s (-7) 7) 0)) u2 (rB [decide (ZvD m p q h D s=true)] (bB (Option.isSome (dlO m p q h D s)) (bB (A.eq (reE m p q h D s) 0) (rB [decide (List.length (reV m p q h D s)≤1000000)] (bB (decide (reV m p q h D s=dlV m p q h D s)) (F (AV.bool (A.eq (reN m p q h D s) (dlN m p q h D s))) none) False)) False) u4))))))))) (rB [A.eq (ZaM d 0 15) 0] (bB (A.not (A.eq (snE m p q h D d) 0)) False (rB [decide (lnB m p q h D d=true)] (rB [decide (List.length (snV m p q h D d)≤1000000)] (bB (A.not (decide (snV m p q h D d=snL m p q h D d))) False (rB [decide (lkE m p q h D=0)] (bB (A.not (A.eq u6 (cnI m D))) u1 (rB [decide (List.length s≤1000000)] (bB (A.not (A.eq (ZaM s (-7) 7) 0)) u2 (rB [decide (ZvD m p q h D s=true)] (bB (Option.isSome (dlO m p q h D s)) (bB (A.eq (reE m p q h D s) 0) (rB [decide (List.length (reV m p q h D s)≤1000000)] (bB (decide (reV m p q h D s=dlV m p q h D s)) (F (AV.bool (A.eq (reN m p q h D s) (dlN m p q h D s))) none) False)) False) u4))))))))))))))))))))
theorem ZRS{A:Ar}{K:KT}{F:FT}{M:MT}{m p q h D:Int}{d s:List Int} :Zah A tab Kq 10 K F M (.run 11 (.fy (.run 8 (.tf (.ty (.ty (.ty (.run 2 (.ty (.run 5 (.fn))))))) (.fy (.fy (.fy (.run 2 (.tf (.run 5 (.fn)) (.run 21 (.tf (.run 5 (.no)) (.run 7 (.tf (.run 6 (.tf (.ty (.ty (.ty (.run 1 (.tf (.ty (.ty (.ty (.ty (.ty (.ty (.run 1 (.tf (.ty (.ty (.run 4 (.fn)))) (.fy (.fy (.run 4 (.no)))))))))))) (.fy (.fy (.fy (.fy (.fy (.fy (.run 1 (.fy (.fy (.fy (.run 4 (.no))))))))))))))))) (.fy (.fy (.fy (.run 1 (.fy (.fy (.fy (.fy (.fy (.fy (.fy (.run 1 (.fy (.fy (.fy (.run 4 (.no))))))))))))))))))) (.run 10 (.tf (.run 9 (.ty (.ty (.ty (.ty (.tf (.ty (.ty (.alt [true,true] (.ty (.run 1 (.ty (.ty (.ty (.run 10 (.ty (.ty (.run 2 (.ty (.run 5 (.no)))))))))))) (.no)))) (.fy (.fy (.alt [true,false] (.ty (.run 1 (.tf (.ty (.ty (.run 10 (.ty (.ty (.run 2 (.ty (.run 5 (.no))))))))) (.fy (.fy (.fy (.fy (.fy (.run 6 (.fy (.alt [false,false] (.fy (.run 2 (.fy (.run 10 (.tf (.run 9 (.ty (.run 6 (.tf (.ty (.ty (.ty (.run 1 (.tf (.ty (.ty (.run 4 (.fn)))) (.fy (.fy (.run 4 (.no))))))))) (.fy (.fy (.fy (.run 1 (.fy (.fy (.fy (.run 4 (.no))))))))))))) (.run 11 (.tf (.run 6 (.tf (.ty (.ty (.ty (.run 1 (.tf (.ty (.ty (.run 4 (.fn)))) (.fy (.fy (.run 4 (.no))))))))) (.fy (.fy (.fy (.run 1 (.fy (.fy (.fy (.run 4 (.no))))))))))) (.run 20 (.tf (.run 5 (.tf (.ty (.ty (.ty (.run 1 (.tf (.ty (.ty (.ty (.run 4 (.fn))))) (.fy (.fy (.fy (.run 4 (.no)))))))))) (.fy (.fy (.fy (.run 1 (.fy (.fy (.fy (.fy (.run 4 (.no)))))))))))) (.run 6 (.tf (.ty (.ty (.ty (.run 1 (.tf (.ty (.ty (.run 4 (.fn)))) (.fy (.fy (.run 4 (.no))))))))) (.fy (.fy (.fy (.run 1 (.fy (.fy (.fy (.run 4 (.no)))))))))))))))))))) (.no)))))))))))) (.no)))))))))) (.run 11 (.tf (.ty (.ty (.ty (.tf (.ty (.ty (.alt [true,true] (.ty (.run 1 (.ty (.ty (.ty (.run 10 (.ty (.ty (.run 2 (.ty (.run 5 (.no)))))))))))) (.no)))) (.fy (.fy (.alt [true,false] (.ty (.run 1 (.tf (.ty (.ty (.run 10 (.ty (.ty (.run 2 (.ty (.run 5 (.no))))))))) (.fy (.fy (.fy (.fy (.fy (.run 6 (.fy (.alt [false,false] (.fy (.run 2 (.fy (.run 10 (.tf (.run 9 (.ty (.run 6 (.tf (.ty (.ty (.ty (.run 1 (.tf (.ty (.ty (.run 4 (.fn)))) (.fy (.fy (.run 4 (.no))))))))) (.fy (.fy (.fy (.run 1 (.fy (.fy (.fy (.run 4 (.no))))))))))))) (.run 11 (.tf (.run 6 (.tf (.ty (.ty (.ty (.run 1 (.tf (.ty (.ty (.run 4 (.fn)))) (.fy (.fy (.run 4 (.no))))))))) (.fy (.fy (.fy (.run 1 (.fy (.fy (.fy (.run 4 (.no))))))))))) (.run 20 (.tf (.run 5 (.tf (.ty (.ty (.ty (.run 1 (.tf (.ty (.ty (.ty (.run 4 (.fn))))) (.fy (.fy (.fy (.run 4 (.no)))))))))) (.fy (.fy (.fy (.run 1 (.fy (.fy (.fy (.fy (.run 4 (.no)))))))))))) (.run 6 (.tf (.ty (.ty (.ty (.run 1 (.tf (.ty (.ty (.run 4 (.fn)))) (.fy (.fy (.run 4 (.no))))))))) (.fy (.fy (.fy (.run 1 (.fy (.fy (.fy (.run 4 (.no)))))))))))))))))))) (.no)))))))))))) (.no)))))))) (.fy (.fy (.fy (.run 3 (.fy (.fy (.run 1 (.fy (.fy (.fy (.ty (.ty (.ty (.tf (.ty (.ty (.ty (.ty (.ty (.alt [true,true] (.alt [false,true] (.fy (.run 2 (.ty (.run 5 (.no))))) (.no)) (.no))))))) (.fy (.fy (.fy (.fy (.fy (.alt [true,false] (.alt [false,true] (.fy (.run 2 (.tf (.run 5 (.no)) (.run 10 (.tf (.run 9 (.ty (.run 6 (.tf (.ty (.ty (.ty (.run 1 (.tf (.ty (.ty (.run 4 (.fn)))) (.fy (.fy (.run 4 (.no))))))))) (.fy (.fy (.fy (.run 1 (.fy (.fy (.fy (.run 4 (.no))))))))))))) (.run 11 (.tf (.run 6 (.tf (.ty (.ty (.ty (.run 1 (.tf (.ty (.ty (.run 4 (.fn)))) (.fy (.fy (.run 4 (.no))))))))) (.fy (.fy (.fy (.run 1 (.fy (.fy (.fy (.run 4 (.no))))))))))) (.run 20 (.tf (.run 5 (.tf (.ty (.ty (.ty (.run 1 (.tf (.ty (.ty (.ty (.run 4 (.fn))))) (.fy (.fy (.fy (.run 4 (.no)))))))))) (.fy (.fy (.fy (.run 1 (.fy (.fy (.fy (.fy (.run 4 (.no)))))))))))) (.run 6 (.tf (.ty (.ty (.ty (.run 1 (.tf (.ty (.ty (.run 4 (.fn)))) (.fy (.fy (.run 4 (.no))))))))) (.fy (.fy (.fy (.run 1 (.fy (.fy (.fy (.run 4 (.no)))))))))))))))))))) (.no)) (.no)))))))))))))))))))))))))))))))))))))) (ZUH m p q h D d s) []=Zxr A K F m p q h D d s:=by kernel_rfl
end Go.Proofs.Ytklbmkllepkjcaa
/- Through the link: what is sent comes back. No condition. -/
namespace Go.Proofs.Ytklbmkllepkjcaa
theorem ZCv{h:Int}{al:List Int}{n:Nat}(hn:n≤15):∀(k i:Nat) (out x:List Int) (c z:Int),(∀j,i≤j→j<i+k→(deO h (paL 15 al j)).isSome=true→(deV h (paL 15 al j)).length=15)→dlR h al n k i out c=some (x,z)→x.length=out.length+k*n
 |0,i,out,x,c,z,_,e=>by
  rw[dlR]at e
  cases e
  omega
 |k+1,i,out,x,c,z,hd,e=>by
  rw[dlR]at e
  split at e
  ·rename_i hs
   have:=ZCv hn k (i+1) _ x _ z (fun j h1 h2 h3=>hd j (by omega) (by omega) h3) e
   rw[this,List.length_append,List.length_take,hd i (by omega) (by omega) hs,Nat.add_mul]
   omega
  ·cases e
theorem LnK.bs{h D:Int}{l:List Int}{n d:Nat}(K:LnK h D l n d):(biL (mxL h n l d)).length=60*d∧ZbP (biL (mxL h n l d))=true:=by
 obtain⟨a,b⟩:=K.mx
 exact⟨by rw[ZoN,a];omega,Zpw _ b⟩
section
variable {h D:Int}{l:List Int}{n d:Nat}(K:LnK h D l n d){bb:List Int}(hl:bb.length=60*d)(hb:ZbP bb=true)
include K hl hb
end
theorem ZKH{m p q h D:Int}{l:List Int}{n d:Nat}(K:LnK h D l n d):(snL m p q h D l).length=2*(60*d+m.toNat):=by
 obtain⟨a,_⟩:=K.bs
 rw[K.sn,ZB3,a]
theorem ZEt{m p q h D:Int}{so:List Int}{n d:Nat}(K:RcK m p q h D so n d)(hs:(dlO m p q h D so).isSome=true):(dlV m p q h D so).length=d*n:=by
 obtain⟨⟨x,z⟩,hx⟩:=Option.isSome_iff_exists.1 hs
 have e:dlV m p q h D so=x:=by unfold dlV;rw[hx]
 have hn:=K.n1
 rw[K.dl]at hx
 rw[e,ZCv (by omega) d 0 [] x 0 z (fun j _ h2 h3=>(K.de (by omega) h3).1) hx,List.length_nil,Nat.zero_add]
end Go.Proofs.Ytklbmkllepkjcaa
/- The law of links: the walk. No condition. -/
namespace Go.Proofs.Ytklbmkllepkjcaa
theorem Zxw(m p q h D:Int)(d s:List Int):Zaj Try.prog 10 [.agg (.gen [.int .i64 m, .int .i64 p, .int .i64 q, .int .i64 h, .int .i64 D]), .list (.ints .i64 d), .list (.ints .i64 s)] (.bool true) none:=by
 refine start (ZFZ m p q h D d s) fun C hC=>tgo hC ZRX ZRS ?_
 by_cases l1:(60:Int)<d.length
 ·simp[Zxr,l1]
 by_cases l2:(500:Int)<s.length
 ·simp[Zxr,l1,l2]
 have l3:d.length≤1000000:=by omega
 have l4:s.length≤1000000:=by omega
 by_cases h1:lkE m p q h D=0
 ·have hz:(10:Int)≠0∧(27:Int)≠0:=by decide
  have hm:=(Zaz (ZsF h1).1).1
  have ks:((¬ (d.length:Int)=daI h D)∧snE m p q h D d=10∧snV m p q h D d=[])∨((d.length:Int)=daI h D∧ZaM d 0 15≠0∧snE m p q h D d=ZaM d 0 15∧snV m p q h D d=[])∨((d.length:Int)=daI h D∧ZaM d 0 15=0∧snE m p q h D d=0∧snV m p q h D d=snL m p q h D d∧lnB m p q h D d=true∧(snL m p q h D d).length≤1000000):=by
   rw[ZDj]
   by_cases a:(d.length:Int)=D*(15-2*h)
   ·by_cases b:ZaM d 0 15=0
    ·have e0:snE m p q h D d=0:=by simp[snE,elE,ZaE,Zau,h1,a,b]
     obtain⟨_,n,k,K⟩:=ZEh (ZGG e0)
     have hk:=K.d1
     exact .inr (.inr ⟨a,b,e0,by unfold snV;rw[if_pos e0],ZGG e0,by rw[ZKH K];omega⟩)
    ·have e0:snE m p q h D d=ZaM d 0 15:=by simp[snE,elE,ZaE,Zau,h1,a,b]
     exact .inr (.inl ⟨a,b,e0,by unfold snV;rw[if_neg (by rw[e0];exact b)]⟩)
   ·have e0:snE m p q h D d=10:=by simp[snE,elE,ZaE,Zau,h1,a]
    exact .inl ⟨a,e0,by unfold snV;rw[if_neg (by rw[e0];decide)]⟩
  have kr:((¬ (s.length:Int)=cnI m D)∧reE m p q h D s=10∧reV m p q h D s=[]∧reN m p q h D s=0)∨((s.length:Int)=cnI m D∧ZaM s (-7) 7≠0∧reE m p q h D s=ZaM s (-7) 7∧reV m p q h D s=[]∧reN m p q h D s=0)∨((s.length:Int)=cnI m D∧ZaM s (-7) 7=0∧ZvD m p q h D s=true∧(dlO m p q h D s).isSome=false∧reE m p q h D s=27∧reV m p q h D s=[]∧reN m p q h D s=0)∨((s.length:Int)=cnI m D∧ZaM s (-7) 7=0∧ZvD m p q h D s=true∧(dlO m p q h D s).isSome=true∧reE m p q h D s=0∧reV m p q h D s=dlV m p q h D s∧reN m p q h D s=dlN m p q h D s∧(dlV m p q h D s).length≤1000000):=by
   rw[ZDP]
   have vn:∀e:Int,e≠0→reE m p q h D s=e→reV m p q h D s=[]∧reN m p q h D s=0:=fun e he e0=>⟨by unfold reV;rw[if_neg (by rw[e0];exact he)],by unfold reN;rw[if_neg (by rw[e0];exact he)]⟩
   by_cases a:(s.length:Int)=2*(4*D*15+m)
   ·by_cases b:ZaM s (-7) 7=0
    ·have g:ZvD m p q h D s=true:=by unfold ZvD;simp[h1,a,b]
     cases c:(dlO m p q h D s).isSome
     ·have e0:reE m p q h D s=27:=by simp[reE,ZaE,Zau,h1,a,b,c]
      exact .inr (.inr (.inl ⟨a,b,g,rfl,e0,vn _ (by decide) e0⟩))
     ·have e0:reE m p q h D s=0:=by simp[reE,ZaE,Zau,h1,a,b,c]
      obtain⟨n,k,K⟩:=ZvI g
      have hk:=K.d1
      have hn:=K.n1
      have hkn:k*n≤52:=Nat.mul_le_mul hk.2 hn.2
      exact .inr (.inr (.inr ⟨a,b,g,rfl,e0,by unfold reV;rw[if_pos e0],by unfold reN;rw[if_pos e0],by rw[ZEt K c];omega⟩))
    ·have e0:reE m p q h D s=ZaM s (-7) 7:=by simp[reE,ZaE,Zau,h1,a,b]
     exact .inr (.inl ⟨a,b,e0,vn _ b e0⟩)
   ·have e0:reE m p q h D s=10:=by simp[reE,ZaE,Zau,h1,a]
    exact .inl ⟨a,e0,vn _ (by decide) e0⟩
  rcases ks with⟨a1,a2,a3⟩ |⟨a1,a2,a3,a4⟩ |⟨a1,a2,a3,a4,a5,a6⟩<;>rcases kr with⟨c1,c2,c3,c4⟩ |⟨c1,c2,c3,c4,c5⟩ |⟨c1,c2,c3,c4,c5,c6,c7⟩ |⟨c1,c2,c3,c4,c5,c6,c7,c8⟩<;>simp[Zxr,l1,l2,l3,l4,h1, *]
 ·have e1:snE m p q h D d=lkE m p q h D:=by simp[snE,ZaE,h1]
  have e2:snV m p q h D d=[]:=by unfold snV;rw[if_neg (by rw[e1];exact h1)]
  have e3:reE m p q h D s=lkE m p q h D:=by simp[reE,ZaE,h1]
  have e4:reV m p q h D s=[]:=by unfold reV;rw[if_neg (by rw[e3];exact h1)]
  have e5:reN m p q h D s=0:=by unfold reN;rw[if_neg (by rw[e3];exact h1)]
  simp[Zxr,l1,l2,l3,l4,h1,e1,e2,e3,e4,e5]
end Go.Proofs.Ytklbmkllepkjcaa
/- CodeLinks: for every input it returns true, and the arguments read as they did. No condition. -/
namespace Go.Proofs.Ytklbmkllepkjcaa
open Go.ChangeShapes Go.WideShapes Go.ChangeAt Go.RowKit
theorem sh10_0:ZAo Try.prog 8 78=some [.int .i64, .int .i64, .int .i64, .int .i64, .int .i64]:=by kernel_rfl
theorem sh10_1:ZAo Try.prog 8 25=some [.ints .i64]:=by kernel_rfl
theorem sh10_2:ZAo Try.prog 8 25=some [.ints .i64]:=by kernel_rfl
set_option maxRecDepth 100000 in
theorem law10(os:Os)(started:os.Started)(H:Type)(enc:TypeId×Value→H):
 ReturnsInHanded {} Try.checked os 10 .any (Rows.codeLinksSpec.pre6 enc Try.prog Try.f10 Rows.codeLinksRow.domain false) (Rows.codeLinksSpec.post enc Try.prog Try.f10 false true false false):=by
 refine returnsInHanded_of_change (C:=Try.checked) own started (by kernel_rfl) Try.func10
  (ChangeSpec.witness6 (enc:=enc) (C:=Try.checked) false ⟨#[], #[.agg #[.int .i64 0, .int .i64 0, .int .i64 0, .int .i64 0, .int .i64 0], .slice none 0 0, .slice none 0 0],[]⟩ 8 (by kernel_rfl) (by kernel_rfl) (by kernel_rfl) (by kernel_rfl)) ?_
 intro W base args ds gs before hval0 hW _ _
 have hval:∀(j:Nat) t v,Try.f10.params[j]? =some t→args[j]? =some v→Value.okWide Try.prog W .any base t v:=hval0
 have hW':=hW
 obtain⟨p,q,hA0,hV,rfl,_,_⟩:=hW
 have hA:DataW.TrodAll enc Try.prog W 0 (fun _=>true) true Try.f10.params.toList args.toList ds p:=hA0
 rw[Try.params10]at hA hval
 obtain⟨v0,v1,v2,d0,d1,d2,p0,p1,p2,rfl,rfl,rfl,h0,h1,h2⟩:=trodAll_three hA
 obtain⟨rfl,rfl⟩:=trodVars_none hV
 have hlt:∀x∈p0++(p1++p2),x.block<W.heap.size:=fun x hx=>by simpa using hW'.lt x (by simpa using hx)
 obtain⟨us0,r0,c0⟩:=ZLW (L:=⟨fun _ _=>0,fun _ _=>0⟩) sh10_0 (okWide_struct Try.underlying78 (hval 0 78 v0 rfl rfl)) h0
 obtain⟨m,g0,g1,hf,dp,rfl⟩:=ZHQ c0
 obtain⟨u1,r1,c1⟩:=ZCU (L:=⟨fun _ _=>0,fun _ _=>0⟩) sh10_1 (by obtain⟨a,l,c,rfl⟩:=okWide_slice Try.underlying25 (hval 1 25 v1 rfl rfl);rfl) h1
 obtain⟨d,rfl,_⟩:=ZwV c1
 obtain⟨u2,r2,c2⟩:=ZCU (L:=⟨fun _ _=>0,fun _ _=>0⟩) sh10_2 (by obtain⟨a,l,c,rfl⟩:=okWide_slice Try.underlying25 (hval 2 25 v2 rfl rfl);rfl) h2
 obtain⟨c,rfl,_⟩:=ZwV c2
 refine(ZzI trivial (Zxw m g0 g1 hf dp d c) (RelL.cons ( r0) (RelL.cons ( r1) (RelL.cons ( r2) RelL.nil)))).mono fun e W' ⟨he,hb⟩=>?_
 subst he
 refine⟨_,rfl,_,_,_,[],p0++(p1++p2),[],hW',trodAll_mk1 (shut_bool Try.underlying4 true),?_,rfl,hb.frame _,fun h=>by cases h⟩
 exact trodAll_mk3 (Below.trod ZrU (by kernel_rfl) (of_decide_eq_true (by kernel_rfl)) h0 hb (fun x hx=>hlt x (List.mem_append_left _ hx))) (Below.trod ZrU (by kernel_rfl) (of_decide_eq_true (by kernel_rfl)) h1 hb (fun x hx=>hlt x (List.mem_append_right _ (List.mem_append_left _ hx)))) (Below.trod ZrU (by kernel_rfl) (of_decide_eq_true (by kernel_rfl)) h2 hb (fun x hx=>hlt x (List.mem_append_right _ (List.mem_append_right _ hx))))
theorem n10 : Try.checked.prog.funcNamed "cassegrain/cassegrainlaw05.CodeLinks" = some 10 := by kernel_rfl
theorem j10:joinedFacts Try.checked.prog 10 Try.f10 Rows.codeLinksSpec Rows.codeLinksRow=true:=by kernel_rfl
theorem i10:Try.f10.isInstance Try.checked.prog Rows.codeLinksRow.origin Rows.codeLinksRow.targs:=of_decide_eq_true (by kernel_rfl)
theorem w10:Try.f10.isWrapper Try.checked.prog Rows.codeLinksRow.wrapper Rows.codeLinksRow.mainSum:=by
 unfold Func.isWrapper
 first |(rw [if_pos (by decide +kernel)];kernel_rfl) |(rw [if_neg (by decide +kernel)];exact⟨rfl,rfl⟩)
theorem CodeLinks_holds:Rows.CodeLinksSaid:=
 OpenClaim.holds_of_wide 10 Try.f10 rfl rfl rfl rfl rfl rfl rfl ⟨rfl,rfl,rfl,rfl,rfl⟩ rfl rfl rfl rfl rfl n10 Try.func10 j10 i10 w10 (fun os started H enc _=>law10 os started H enc)
#print axioms CodeLinks_holds
end Go.Proofs.Ytklbmkllepkjcaa
