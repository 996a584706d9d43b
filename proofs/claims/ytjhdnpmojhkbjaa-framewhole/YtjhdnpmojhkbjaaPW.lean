/- Whole packets: what is extracted of packed frames of which some are lost. No condition. -/
import Derived.Test.YtjhdnpmojhkbjaaNa
import Derived.KernelRfl
namespace Go.Proofs.Ytjhdnpmojhkbjaa
def pkQ(q:AV):AV:=.agg (.gen [.int .i64 (kI q), .int .i64 (kC q), .list (.ints .i64 (kD q))])
def Zu7(l:List AV):List AV:=(l.filter fun q=>decide (kI q≠255)).map pkQ
theorem Zlu(q:AV)(l:List AV):Zu7 (q::l)=(if kI q=255 then []else [pkQ q])++Zu7 l:=by
 unfold Zu7
 by_cases h:kI q=255
 ·rw[List.filter_cons_of_neg (by simp[h]),if_pos h];rfl
 ·rw[List.filter_cons_of_pos (by simp[h]),if_neg h];rfl
theorem Za1:∀P Q:List AV,Zae (P++Q)=Zae P++Zae Q
 |[],_=>rfl
 |p::P,Q=>by rw[List.cons_append,Zae,Zae,Za1 P Q,List.append_assoc]
theorem Zgw:∀(n:Nat) (P Q:List AV),Zai n (P++Q)=Zai n P++Zai (n+(Zae P).length) Q
 |_,[],_=>rfl
 |n,p::P,Q=>by rw[List.cons_append,Zai,Zai,Zgw _ P Q,Zae,List.length_append,List.cons_append,Nat.add_assoc]
theorem ZiO:∀(n:Nat) (P:List AV),∀x∈Zai n P,x<((n+(Zae P).length:Nat):Int)
 |n,[],x,h=>by simp[Zai]at h
 |n,p::P,x,h=>by
  have hp:0<(pkB p).length:=by simp[pkB]
  rw[Zai,List.mem_cons]at h
  rw[Zae,List.length_append]
  rcases h with rfl |h
  ·omega
  ·have:=ZiO _ P x h;omega
theorem Zq0:∀ {Q:List AV},(∀q∈Q,bytP (pkB q))→bytP (Zae Q)
 |[],_=>fun b hb=>by simp[Zae]at hb
 |q::Q,h=>(h q (by simp)).app (Zq0 fun q' hq=>h q' (by simp[hq]))
theorem bytP.take{p:List Int}(h:bytP p)(n:Nat):bytP (p.take n):=fun b hb=>h b (List.mem_of_mem_take hb)
theorem ZzM{q:AV}{r:List Int}(hq:bytP (pkB q))(hr:bytP r):eat (pkB q++r)=((if kI q=255 then []else [pkQ q])++(eat r).1,(eat r).2):=by
 have h0:(pkB q++r).getD 0 0=kI q:=rfl
 have h2:(pkB q++r).getD 2 0=((kD q).length:Int):=rfl
 have hl:(pkB q++r).length=3+(kD q).length+r.length:=by simp[pkB];omega
 have hd:(pkB q++r).drop (3+((kD q).length:Int)).toNat=r:=by
  rw[show (3+((kD q).length:Int)).toNat=(pkB q).length by simp[pkB];omega,List.drop_left]
 have ht:((pkB q++r).drop 3).take ((kD q).length:Int).toNat=kD q:=by
  rw[Int.toNat_natCast];show(kD q++r).take _=_;exact List.take_left
 rw[Zg2 (hq.app hr) (by omega) (by rw[h2,hl];omega),h0,h2,hd]
 unfold pkA
 rw[h0,h2,ht,show(pkB q++r).getD 1 0=kC q from rfl]
 rfl
theorem Ztu{q:AV}{r:List Int}{n:Nat}(hn:n<(pkB q).length):eat ((pkB q++r).take n)=([],(pkB q++r).take n):=by
 apply Zb0
 have hlen:((pkB q++r).take n).length=n:=by rw[List.length_take,List.length_append];omega
 by_cases h:n<3
 ·left;omega
 ·right
  have:((pkB q++r).take n).getD 2 0=((kD q).length:Int):=by
   rw[List.getD_eq_getElem?_getD,List.getElem?_take,if_pos (by omega)];rfl
  rw[this,hlen];simp[pkB]at hn;omega
def Zha:Nat→List AV→List AV×List AV
 |_,[]=>([],[])
 |n,q::qs=>if(pkB q).length≤n then(q::(Zha (n-(pkB q).length) qs).1,(Zha (n-(pkB q).length) qs).2)else([],q::qs)
theorem Zke:∀(qs:List AV) (n:Nat),(Zha n qs).1++(Zha n qs).2=qs
 |[],_=>rfl
 |q::qs,n=>by
  unfold Zha
  split
  ·rw[List.cons_append,Zke qs]
  ·rfl
theorem Zmy:∀(qs:List AV) (n:Nat),(Zae (Zha n qs).1).length≤n
 |[],_=>by simp[Zha,Zae]
 |q::qs,n=>by
  unfold Zha
  split
  ·rename_i h
   have:=Zmy qs (n-(pkB q).length)
   dsimp only
   rw[Zae,List.length_append];omega
  ·simp[Zae]
theorem ZlK:∀(qs:List AV) (n:Nat) (q:AV) (qs':List AV),(Zha n qs).2=q::qs'→n<(Zae (Zha n qs).1).length+(pkB q).length
 |[],_,q,qs',h=>by simp[Zha]at h
 |p::qs,n,q,qs',h=>by
  unfold Zha at h⊢
  split at h
  ·rename_i hl
   have:=ZlK qs (n-(pkB p).length) q qs' h
   rw[if_pos hl]
   dsimp only
   rw[Zae,List.length_append];omega
  ·rename_i hl
   rw[if_neg hl]
   simp only[List.cons.injEq]at h
   rw[←h.1]
   simp[Zae];omega
theorem Znd:∀(qs:List AV) (n:Nat),n≤(Zae qs).length→(∀q∈qs,bytP (pkB q))→eat ((Zae qs).take n)=(Zu7 (Zha n qs).1,(Zae (Zha n qs).2).take (n-(Zae (Zha n qs).1).length))
 |[],n,_,_=>by
  rw[show (Zae ([]:List AV)).take n=[] by simp[Zae],Zb0 (by simp)]
  simp[Zha,Zu7,Zae]
 |q::qs,n,hn,hq=>by
  rw[Zae,List.length_append]at hn
  have hqs:∀p∈qs,bytP (pkB p):=fun p hp=>hq p (by simp[hp])
  by_cases h:(pkB q).length≤n
  ·have e:Zha n (q::qs)=(q::(Zha (n-(pkB q).length) qs).1,(Zha (n-(pkB q).length) qs).2):=by rw[Zha,if_pos h]
   rw[e,Zae,List.take_append,List.take_of_length_le h,ZzM (hq q (by simp)) ((Zq0 hqs).take _),Znd qs _ (by omega) hqs]
   dsimp only
   rw[Zlu,Zae,List.length_append,Nat.sub_sub]
  ·have e:Zha n (q::qs)=([],q::qs):=by rw[Zha,if_neg h]
   have e2:Zae (q::qs)=pkB q++Zae qs:=rfl
   rw[e]
   dsimp only
   rw[e2,Ztu (by omega)]
   simp[Zu7,Zae]
def ZcW(L:List Bool)(k:Nat):Bool:=L.getD k false
def ZjH(L:List Bool):Nat→Nat→Bool
 |_,0=>true
 |k,m+1=>!ZcW L k&&ZjH L (k+1) m
theorem Znj(L:List Bool):∀(m k:Nat),ZjH L k m=true↔∀j,k≤j→j<k+m→ZcW L j=false
 |0,k=>by simp only[ZjH,true_iff];intro j h1 h2;omega
 |m+1,k=>by
  rw[ZjH,Bool.and_eq_true,Znj L m (k+1)]
  constructor
  ·rintro⟨h1,h2⟩ j h3 h4
   by_cases h:j=k
   ·subst h;simpa using h1
   ·exact h2 j (by omega) (by omega)
  ·intro h
   exact⟨by have:=h k (by omega) (by omega);simp[this],fun j h1 h2=>h j (by omega) (by omega)⟩
def Zji(L:List Bool)(N s n:Nat):Bool:=ZjH L (s/N) ((s+n-1)/N+1-s/N)
theorem ZiR{L:List Bool}{N s n:Nat}(h0:0<n):Zji L N s n=true↔∀j,s/N≤j→j≤(s+n-1)/N→ZcW L j=false:=by
 have:s/N≤(s+n-1)/N:=Nat.div_le_div_right (by omega)
 rw[Zji,Znj]
 constructor
 ·intro h j h1 h2;exact h j h1 (by omega)
 ·intro h j h1 h2;exact h j h1 (by omega)
def Zcj(L:List Bool)(N:Nat):Nat→List AV→List AV
 |_,[]=>[]
 |s,q::qs=>(if (decide (kI q≠255)&&Zji L N s (pkB q).length)=true then [q]else [])++Zcj L N (s+(pkB q).length) qs
theorem ZlF{L:List Bool}{N s j:Nat}{q:AV}{qs:List AV}(h1:s/N≤j)(h2:j≤(s+(pkB q).length-1)/N)(h3:ZcW L j=true):Zcj L N s (q::qs)=Zcj L N (s+(pkB q).length) qs:=by
 have hp:0<(pkB q).length:=by simp[pkB]
 have:Zji L N s (pkB q).length=false:=by
  rw[Bool.eq_false_iff,Ne,ZiR hp]
  intro h;have:=h j h1 h2;rw[h3]at this;cases this
 rw[Zcj,this,Bool.and_false,if_neg (by decide),List.nil_append]
theorem ZDR{N i x:Nat}(hN:0<N)(h1:i*N≤x)(h2:x<(i+1)*N):x/N=i:=by
 have a:=(Nat.le_div_iff_mul_le hN).2 h1
 have b:=(Nat.div_lt_iff_lt_mul hN).2 h2
 omega
theorem Zm4{L:List Bool}{N i:Nat}(hN:0<N):∀(q1:List AV) (s:Nat) (q2:List AV),(∀j,s/N≤j→j≤i→ZcW L j=false)→s+(Zae q1).length≤(i+1)*N→
 (Zcj L N s (q1++q2)).map pkQ=Zu7 q1++(Zcj L N (s+(Zae q1).length) q2).map pkQ
 |[],s,q2,_,_=>by simp[Zu7,Zae]
 |q::q1,s,q2,h,hs=>by
  rw[Zae,List.length_append]at hs
  have hp:0<(pkB q).length:=by simp[pkB]
  have hw:Zji L N s (pkB q).length=true:=by
   rw[ZiR hp]
   intro j h1 h2
   have:(s+(pkB q).length-1)/N<i+1:=(Nat.div_lt_iff_lt_mul hN).2 (by omega)
   exact h j h1 (by omega)
  have hm:s/N≤(s+(pkB q).length)/N:=Nat.div_le_div_right (by omega)
  rw[List.cons_append,Zcj,hw,Bool.and_true,List.map_append,Zm4 hN q1 (s+(pkB q).length) q2 (fun j h1 h2=>h j (by omega) h2) (by omega),Zlu,Zae,List.length_append,Nat.add_assoc,List.append_assoc]
  congr 1
  by_cases h9:kI q=255<;>simp[h9]
theorem Zlv{L:List Bool}{N i:Nat}(hN:0<N)(hl:ZcW L i=true):∀(q1:List AV) (s:Nat) (q2:List AV),(∀q q1',q1=q::q1'→i*N<s+(pkB q).length)→s+(Zae q1).length≤(i+1)*N→
 Zcj L N s (q1++q2)=Zcj L N (s+(Zae q1).length) q2
 |[],s,q2,_,_=>by simp[Zae]
 |q::q1,s,q2,h,hs=>by
  rw[Zae,List.length_append]at hs
  have hp:0<(pkB q).length:=by simp[pkB]
  have h1:=h q q1 rfl
  have e1:(s+(pkB q).length-1)/N=i:=ZDR hN (by omega) (by omega)
  have e2:s/N≤(s+(pkB q).length-1)/N:=Nat.div_le_div_right (by omega)
  rw[List.cons_append,ZlF (j:=i) (by omega) (by omega) hl,Zlv hN hl q1 _ q2 (fun p q1' _=>by omega) (by omega),Zae,List.length_append,Nat.add_assoc]
theorem Zp0{S0 S1:List Int}{x:Int}(h0:∀z∈S0,z<x)(h1:∀y T,S1=y::T→x≤y):loS (S0++S1) x=S0.length:=by
 unfold loS
 rw[List.takeWhile_append_of_pos (fun z hz=>by simpa using h0 z hz),List.length_append]
 cases S1 with
 |nil=>simp
 |cons y T=>
  have:=h1 y T rfl
  rw[List.takeWhile_cons,if_neg (by simpa using this)];simp
theorem ZoG{S0:List Int}{x N:Int}(h0:∀z∈S0,z<x):Zdj S0 x N=255:=by
 have:=Zp0 (S1:=[]) h0 (fun y T h=>by cases h)
 rw[List.append_nil]at this
 rw[Zdj,this,if_neg (by omega)]
theorem Zhv{S0 T:List Int}{x y N:Int}(h0:∀z∈S0,z<x)(h1:x≤y):Zdj (S0++y::T) x N=if y<x+N then y-x else 255:=by
 have:=Zp0 (S1:=y::T) h0 (fun y' T' h=>by cases h;exact h1)
 have e:(S0++y::T).getD S0.length 0=y:=by simp
 rw[Zdj,this,e]
 by_cases h:y<x+N
 ·rw[if_pos ⟨by simp,h⟩,if_pos h]
 ·rw[if_neg (fun h2=>h h2.2),if_neg h]
def ZfJ(L:List Bool)(f:Nat→AV):Nat→Nat→List AV
 |_,0=>[]
 |i,t+1=>if ZcW L i=true then ZfJ L f (i+1) t else f i::ZfJ L f (i+1) t
def ZwA(L:List Bool)(N s i:Nat):Prop:=∀k,s/N≤k→k<i→ZcW L k=false
def ZhD(N:Nat)(c d κ:Int)(Q:List AV)(i:Nat):AV:=ZlX (Zil c d N (Zae Q) (Zai 0 Q) i) (κ+i)
section
variable {L:List Bool}{N K:Nat}{c d κ:Int}{Q:List AV}(hN:4≤N∧N≤24)(hB:(Zae Q).length=K*N)(hQ:∀q∈Q,bytP (pkB q))
def ZLk(L:List Bool)(N:Nat)(κ:Int)(qs:List AV)(st:Option (List Int))(last:Int)(i s:Nat):Prop:=last+1≤κ+i∧((last+1=κ+i∧st=some ((Zae qs).take (i*N-s))∧ZwA L N s i)∨((st=none∨last+1<κ+i)∧(¬ZwA L N s i∨s=i*N)))
include hN hB hQ
theorem ZfR(t i u:Nat)(P qu:List AV)(st:Option (List Int))(last:Int)(hit:i+(t+1)=K)(hPQ:Q=P++qu)(hu:u=(Zae P).length)(huv:u≤(i+1)*N)(hop:∀j,u/N≤j→j≤i→ZcW L j=false)
 (hby:ZlI st last (ZhD N c d κ Q i)=some ((Zae qu).take ((i+1)*N-u)))
 (ih:∀(s:Nat) (P qs:List AV) (st:Option (List Int)) (last:Int),Q=P++qs→s=(Zae P).length→s≤(i+1)*N→(∀q qs',qs=q::qs'→(i+1)*N<s+(pkB q).length)→ZLk L N κ qs st last (i+1) s→ZiS st last (ZfJ L (ZhD N c d κ Q) (i+1) t)=(Zcj L N s qs).map pkQ):
 ZiS st last (ZhD N c d κ Q i::ZfJ L (ZhD N c d κ Q) (i+1) t)=(Zcj L N u qu).map pkQ:=by
 have hle:(i+1)*N≤K*N:=Nat.mul_le_mul_right N (by omega)
 have hlen:u+(Zae qu).length=K*N:=by rw[←hB,hPQ,Za1,List.length_append,hu]
 have hqu:∀q∈qu,bytP (pkB q):=fun q hq=>hQ q (by rw[hPQ];simp[hq])
 have he:=Znd qu ((i+1)*N-u) (by omega) hqu
 have ha:=Zke qu ((i+1)*N-u)
 have hl:=Zmy qu ((i+1)*N-u)
 have hh:=ZlK qu ((i+1)*N-u)
 obtain⟨⟨q1,q2⟩,hc⟩:∃x,Zha ((i+1)*N-u) qu=x:=⟨_,rfl⟩
 rw[hc]at he ha hl hh
 dsimp only at he ha hl hh
 have hw:=Zm4 (L:=L) (i:=i) (show 0<N by omega) q1 u q2 hop (by omega)
 rw[ha]at hw
 have hdv:u/N≤(u+(Zae q1).length)/N:=Nat.div_le_div_right (by omega)
 rw[ZiS,hw,Zjr,Zj6,hby]
 dsimp only
 rw[he]
 dsimp only
 rw[ih (u+(Zae q1).length) (P++q1) q2 _ _ (by rw[hPQ,List.append_assoc,ha]) (by rw[Za1,List.length_append,hu]) (by omega)
  (fun q qs' h=>by have:=hh q qs' h;omega) ⟨by rw[show Zaw (ZhD N c d κ Q i)=κ+i from rfl];omega, .inl ⟨by rw[show Zaw (ZhD N c d κ Q i)=κ+i from rfl];omega,by rw[Nat.sub_sub],fun k h1 h2=>hop k (by omega) (by omega)⟩⟩]
theorem ZoB:∀(t i s:Nat) (P qs:List AV) (st:Option (List Int)) (last:Int),i+t=K→Q=P++qs→s=(Zae P).length→s≤i*N→(∀q qs',qs=q::qs'→i*N<s+(pkB q).length)→ZLk L N κ qs st last i s→
 ZiS st last (ZfJ L (ZhD N c d κ Q) i t)=(Zcj L N s qs).map pkQ:=by
 intro t
 induction t with
 |zero=>
  intro i s P qs st last hit hPQ hs hsi hhd hr
  cases qs with
  |nil=>simp[ZfJ,ZiS,Zcj]
  |cons q qs=>
   have:=hhd q qs rfl
   rw[hPQ,Za1,List.length_append,Zae,List.length_append]at hB
   have:i=K:=by omega
   subst this
   omega
 |succ t ih=>
  intro i s P qs st last hit hPQ hs hsi hhd hr
  have hle:(i+1)*N≤K*N:=Nat.mul_le_mul_right N (by omega)
  have hlen:s+(Zae qs).length=K*N:=by rw[←hB,hPQ,Za1,List.length_append,hs]
  have hv:(i+1)*N=i*N+N:=Nat.succ_mul i N
  have hdr:(Zae Q).drop (i*N)=(Zae qs).drop (i*N-s):=by
   rw[hPQ,Za1,List.drop_append,List.drop_of_length_le (by omega),←hs,List.nil_append]
  have hds:dsN (ZhD N c d κ Q i)=((Zae qs).drop (i*N-s)).take N:=by rw[←hdr];rfl
  have hdl:(dsN (ZhD N c d κ Q i)).length=N:=by rw[hds,List.length_take,List.length_drop];omega
  have hky:Zaw (ZhD N c d κ Q i)=κ+i:=rfl
  have hfi:fiN (ZhD N c d κ Q i)=Zdj (Zai 0 Q) ((i*N:Nat):Int) N:=rfl
  rw[hPQ,Zgw,←hPQ,Nat.zero_add,←hs]at hfi
  obtain⟨q,qs',rfl⟩:∃q qs',qs=q::qs':=by
   cases qs with
   |nil=>simp[Zae]at hlen;omega
   |cons q qs'=>exact⟨q,qs',rfl⟩
  have hq:=hhd q qs' rfl
  have hS0:∀z∈Zai 0 P,z<(s:Int):=fun z hz=>by have:=ZiO 0 P z hz;rw[Nat.zero_add,←hs]at this;exact this
  have hpl:3≤(pkB q).length:=by simp[pkB]
  -- where the first packet begins
  have hf1:s=i*N→fiN (ZhD N c d κ Q i)=0:=fun h=>by
   rw[hfi,Zai,h,Zhv (by rw[←h];exact hS0) (by omega),if_pos (by omega)];omega
  have hf2:s<i*N→fiN (ZhD N c d κ Q i)=if s+(pkB q).length<(i+1)*N then((s+(pkB q).length:Nat):Int)-((i*N:Nat):Int)else 255:=fun h=>by
   rw[hfi,Zai]
   have h0:∀z∈Zai 0 P++[(s:Int)],z<((i*N:Nat):Int):=fun z hz=>by
    rcases List.mem_append.1 hz with hz |hz
    ·have:=hS0 z hz;omega
    ·simp at hz;omega
   cases qs' with
   |nil=>
    rw[Zai,ZoG h0,if_neg]
    rw[Zae,Zae,List.append_nil]at hlen
    omega
   |cons p ps=>
    rw[Zai,show Zai 0 P++(s:Int)::((s+(pkB q).length:Nat):Int)::Zai (s+(pkB q).length+(pkB p).length) ps=(Zai 0 P++[(s:Int)])++((s+(pkB q).length:Nat):Int)::Zai (s+(pkB q).length+(pkB p).length) ps by simp,Zhv h0 (by omega)]
    by_cases h9:s+(pkB q).length<(i+1)*N
    ·rw[if_pos (by omega),if_pos h9]
    ·rw[if_neg (by omega),if_neg h9]
  obtain⟨hr1,hr2⟩:=hr
  by_cases hl:ZcW L i=true
  · -- the frame is lost
    rw[ZfJ,if_pos hl]
    have ha:=Zke (q::qs') ((i+1)*N-s)
    have hc:=Zmy (q::qs') ((i+1)*N-s)
    have hh:=ZlK (q::qs') ((i+1)*N-s)
    obtain⟨⟨q1,q2⟩,hcc⟩:∃x,Zha ((i+1)*N-s) (q::qs')=x:=⟨_,rfl⟩
    rw[hcc]at ha hc hh
    dsimp only at ha hc hh
    have hw:=Zlv (L:=L) (show 0<N by omega) hl q1 s q2 (fun p q1' h=>by
     rw[h,List.cons_append]at ha
     have:=(List.cons.inj ha).1
     rw[this];exact hq) (by omega)
    rw[ha]at hw
    rw[hw]
    refine ih (i+1) _ (P++q1) q2 st last (by omega) (by rw[hPQ,List.append_assoc,ha]) (by rw[Za1,List.length_append,hs]) (by omega) (fun p qs2 h=>by have:=hh p qs2 h;omega) ⟨by omega, .inr ⟨.inr (by omega),?_⟩⟩
    by_cases h9:s+(Zae q1).length=(i+1)*N
    ·exact .inr h9
    ·left
     intro ho
     have:(s+(Zae q1).length)/N<i+1:=(Nat.div_lt_iff_lt_mul (by omega)).2 (by omega)
     have:=ho i (by omega) (by omega)
     rw[hl]at this;cases this
  ·have hl:ZcW L i=false:=by simpa using hl
   rw[ZfJ,if_neg (by rw[hl];decide)]
   have ih':=fun s P qs st last=>ih (i+1) s P qs st last (by omega)
   rcases hr2 with⟨e1,e2,e3⟩ |⟨e1,e2⟩
   · -- what was open goes on
     have hop:∀j,s/N≤j→j≤i→ZcW L j=false:=fun j h1 h2=>by
      by_cases h:j=i
      ·rw[h];exact hl
      ·exact e3 j h1 (by omega)
     refine ZfR hN hB hQ t i s P (q::qs') st last hit hPQ hs (by omega) hop ?_ ih'
     have hpd:((Zae (q::qs')).take (i*N-s))++dsN (ZhD N c d κ Q i)=(Zae (q::qs')).take ((i+1)*N-s):=by
      rw[hds,←List.take_add,show i*N-s+N=(i+1)*N-s by omega]
     have hpln:((Zae (q::qs')).take (i*N-s)).length=i*N-s:=by rw[List.length_take];omega
     have hcont:ZdN st last (ZhD N c d κ Q i)=some ((Zae (q::qs')).take (i*N-s)):=by
      unfold ZdN
      rw[e2]
      dsimp only
      rw[if_pos]
      refine⟨by rw[hky];omega,?_⟩
      rw[hdl]
      unfold ZjA
      rw[hpln]
      by_cases h0:s=i*N
      ·rw[if_pos (by omega),hf1 h0]
      ·rw[if_neg (by omega),hf2 (by omega)]
       have e5:ZAJ ((Zae (q::qs')).take (i*N-s)) (dsN (ZhD N c d κ Q i))=((s+(pkB q).length:Nat):Int)-((i*N:Nat):Int):=by
        unfold ZAJ
        rw[hpd,hpln,List.getD_eq_getElem?_getD,List.getElem?_take,if_pos (by omega),show((Zae (q::qs'))[2]?).getD 0=((kD q).length:Int)from rfl]
        have:(pkB q).length=3+(kD q).length:=by simp[pkB];omega
        omega
       rw[e5]
       by_cases h9:s+(pkB q).length<(i+1)*N
       ·rw[if_pos h9,if_pos (by omega)]
       ·rw[if_neg h9,if_neg (by omega)]
     rw[ZlI,hcont]
     dsimp only
     rw[hpd]
   · -- nothing is open
     have hcont:ZdN st last (ZhD N c d κ Q i)=none:=by
      unfold ZdN
      rcases e1 with e1 |e1
      ·rw[e1]
      ·cases st with
       |none=>rfl
       |some p=>dsimp only;rw[if_neg];rw[hky];omega
     by_cases h0:s=i*N
     ·refine ZfR hN hB hQ t i s P (q::qs') st last hit hPQ hs (by omega) (fun j h1 h2=>?_) ?_ ih'
      ·rw[h0,Nat.mul_div_cancel _ (by omega)]at h1
       rw[show j=i by omega];exact hl
      ·rw[ZlI,hcont]
       dsimp only
       rw[hf1 h0,if_neg (by decide),hds,show i*N-s=0 by omega,show(i+1)*N-s=N by omega]
       rfl
     ·have hno:¬ZwA L N s i:=by
       rcases e2 with e2 |e2
       ·exact e2
       ·exact absurd e2 h0
      have hf:=hf2 (by omega)
      obtain⟨k,hk1,hk2,hk3⟩:∃k,s/N≤k∧k<i∧ZcW L k=true:=by
       apply Classical.byContradiction
       intro hne
       refine hno fun k h1 h2=>?_
       cases h3:ZcW L k with
       |false=>rfl
       |true=>exact absurd ⟨k,h1,h2,h3⟩ hne
      have hdi:i≤(s+(pkB q).length-1)/N:=(Nat.le_div_iff_mul_le (by omega)).2 (by omega)
      have hsk:=ZlF (L:=L) (N:=N) (s:=s) (q:=q) (qs:=qs') (j:=k) hk1 (by omega) hk3
      by_cases h9:s+(pkB q).length<(i+1)*N
      ·rw[if_pos h9]at hf
       rw[hsk]
       refine ZfR hN hB hQ t i (s+(pkB q).length) (P++[q]) qs' st last hit (by rw[hPQ];simp) (by rw[Za1,List.length_append,hs];simp[Zae]) (by omega) (fun j h1 h2=>?_) ?_ ih'
       ·have:i≤(s+(pkB q).length)/N:=(Nat.le_div_iff_mul_le (by omega)).2 (by omega)
        rw[show j=i by omega];exact hl
       ·rw[ZlI,hcont]
        dsimp only
        rw[hf,if_neg (by omega),hds]
        have e7:(((s+(pkB q).length:Nat):Int)-((i*N:Nat):Int)).toNat=s+(pkB q).length-i*N:=by omega
        rw[e7,List.drop_take,List.drop_drop,show i*N-s+(s+(pkB q).length-i*N)=(pkB q).length by omega,Zae,List.drop_left,show N-(s+(pkB q).length-i*N)=(i+1)*N-(s+(pkB q).length) by omega]
      ·rw[if_neg h9]at hf
       have hby:ZlI st last (ZhD N c d κ Q i)=none:=by
        rw[ZlI,hcont]
        dsimp only
        rw[hf,if_pos rfl]
       rw[ZiS,Zjr,Zj6,hby]
       dsimp only
       rw[List.nil_append]
       by_cases h8:s+(pkB q).length=(i+1)*N
       ·rw[hsk]
        exact ih' _ (P++[q]) qs' none _ (by rw[hPQ];simp) (by rw[Za1,List.length_append,hs];simp[Zae]) (by omega) (fun p qs2 h=>by have:0<(pkB p).length:=by { simp[pkB] };omega) ⟨by rw[hky];omega, .inr ⟨.inl rfl, .inr h8⟩⟩
       ·exact ih' s P (q::qs') none _ hPQ hs (by omega) (fun p qs2 h=>by cases h;omega) ⟨by rw[hky];omega, .inr ⟨.inl rfl, .inl fun ho=>by have:=ho k hk1 (by omega);rw[hk3]at this;cases this⟩⟩
end
end Go.Proofs.Ytjhdnpmojhkbjaa
/- Frames of which some are lost, in order. No condition. -/
namespace Go.Proofs.Ytjhdnpmojhkbjaa
theorem Zjy{L:List Bool}{f:Nat→AV} :∀ {t i:Nat} {x:AV},x∈ZfJ L f i t→∃k,i≤k∧k<i+t∧x=f k
 |0,i,x,h=>by simp[ZfJ]at h
 |t+1,i,x,h=>by
  rw[ZfJ]at h
  split at h
  ·obtain⟨k,h1,h2,h3⟩:=Zjy h;exact⟨k,by omega,by omega,h3⟩
  ·rcases List.mem_cons.1 h with rfl |h
   ·exact⟨i,by omega,by omega,rfl⟩
   ·obtain⟨k,h1,h2,h3⟩:=Zjy h;exact⟨k,by omega,by omega,h3⟩
theorem Zjx{L:List Bool}{f:Nat→AV}{κ:Int}(h:∀k,Zaw (f k)=κ+k):∀(t i:Nat),StrN (ZfJ L f i t)
 |0,i=>List.Pairwise.nil
 |t+1,i=>by
  rw[ZfJ]
  split
  ·exact Zjx h t (i+1)
  ·refine List.Pairwise.cons (fun y hy=>?_) (Zjx h t (i+1))
   obtain⟨k,h1,h2,rfl⟩:=Zjy hy
   rw[h,h];omega
theorem ZrK:∀(l:List AV) (p:AV),StrN (p::l)→cpA p l=l
 |[],_,_=>rfl
 |y::l,p,h=>by
  have h1:Zaw p<Zaw y:=List.rel_of_pairwise_cons h (by simp)
  rw[cpA,if_neg (by omega),ZrK l y (List.Pairwise.of_cons h)]
theorem ZwP{l:List AV}(h:StrN l):cpN l=l:=by
 cases l with
 |nil=>rfl
 |cons x l=>rw[cpN,ZrK l x h]
theorem Zqs{d κ:Int}{i j:Nat}(hd:0≤d)(hκ:(κ-d)%64=0)(h1:j<i)(h2:i≤j+32):Zfp (κ+j) ((d+i).tmod 64)=κ+i:=by
 have e:(d+(i:Int)).tmod 64=(d+i)%64:=Int.tmod_eq_emod_of_nonneg (by omega)
 have e2:ZqA ((d+(i:Int))%64-(κ+j)) 64=(i:Int)-j:=by rw[Zfy];omega
 rw[e,Zfp,e2,if_pos (by omega)];omega
section
variable {L:List Bool}{N:Nat}{c d:Int}{Q:List AV}(hd:0≤d)
include hd
theorem Zki{κ:Int}(hκ:(κ-d)%64=0):∀(t i j:Nat),j<i→i+t≤24→ZlJ c (ZfJ L (Zil c d N (Zae Q) (Zai 0 Q)) i t) (κ+j)=ZfJ L (ZhD N c d κ Q) i t
 |0,i,j,_,_=>rfl
 |t+1,i,j,h1,h2=>by
  rw[ZfJ,ZfJ]
  split
  ·exact Zki hκ t (i+1) j (by omega) (by omega)
  ·rw[ZlJ,if_pos (show chF (Zil c d N (Zae Q) (Zai 0 Q) i)=c from rfl),show ctF (Zil c d N (Zae Q) (Zai 0 Q) i)=(d+i).tmod 64 from rfl,Zqs hd hκ h1 (by omega),Zki hκ t (i+1) i (by omega) (by omega)]
   rfl
theorem Zlc:∀(t i:Nat),i+t≤24→∃κ:Int,1≤κ∧(κ-d)%64=0∧ZcR c (ZfJ L (Zil c d N (Zae Q) (Zai 0 Q)) i t)=ZfJ L (ZhD N c d κ Q) i t
 |0,i,_=>⟨d+64,by omega,by omega,rfl⟩
 |t+1,i,h2=>by
  rw[ZfJ]
  split
  ·rename_i hl
   obtain⟨κ,k1,k2,k3⟩:=Zlc t (i+1) (by omega)
   exact⟨κ,k1,k2,by rw[k3,ZfJ,if_pos hl]⟩
  ·rename_i hl
   have e:(d+(i:Int)).tmod 64=(d+i)%64:=Int.tmod_eq_emod_of_nonneg (by omega)
   have hκ:(((d+(i:Int))%64+64-i)-d)%64=0:=by omega
   refine⟨(d+i)%64+64-i,by omega,hκ,?_⟩
   have e2:(d+(i:Int))%64+64=((d+i)%64+64-i)+(i:Int):=by omega
   rw[ZcR,if_pos (show chF (Zil c d N (Zae Q) (Zai 0 Q) i)=c from rfl),show ctF (Zil c d N (Zae Q) (Zai 0 Q) i)=(d+i).tmod 64 from rfl,e]
   rw[ZfJ,if_neg hl]
   have:=Zki (L:=L) (N:=N) (c:=c) (Q:=Q) hd hκ t (i+1) i (by omega) (by omega)
   rw[←e2]at this
   rw[this,ZhD,←e2]
theorem Zyf(K:Nat)(hK:K≤24):∃κ:Int,1≤κ∧ZgX c (ZfJ L (Zil c d N (Zae Q) (Zai 0 Q)) 0 K)=ZfJ L (ZhD N c d κ Q) 0 K:=by
 obtain⟨κ,k1,k2,k3⟩:=Zlc (L:=L) (N:=N) (c:=c) (Q:=Q) hd K 0 (by omega)
 refine⟨κ,k1,?_⟩
 have hs:StrN (ZfJ L (ZhD N c d κ Q) 0 K):=Zjx (fun k=>rfl) K 0
 rw[ZgX,k3,Za3 hs.sort,ZwP hs]
theorem Zqe{K:Nat}(hK:K≤24)(hN:4≤N∧N≤24)(hB:(Zae Q).length=K*N)(hQ:∀q∈Q,bytP (pkB q)):ZiS none 0 (ZgX c (ZfJ L (Zil c d N (Zae Q) (Zai 0 Q)) 0 K))=(Zcj L N 0 Q).map pkQ:=by
 obtain⟨κ,k1,k2⟩:=Zyf (L:=L) (N:=N) (c:=c) (Q:=Q) hd K hK
 rw[k2]
 exact ZoB hN hB hQ K 0 0 [] Q none 0 (by omega) rfl rfl (by omega) (fun q qs' h=>by simp[pkB]) ⟨by omega, .inr ⟨.inl rfl, .inr (by omega)⟩⟩
end
theorem ZkU(L:List Bool)(N:Nat)(q:AV)(hq:kI q=255):∀(ps:List AV) (s:Nat),Zcj L N s (ps++[q])=Zcj L N s ps
 |[],s=>by simp[Zcj,hq]
 |p::ps,s=>by rw[List.cons_append,Zcj,Zcj,ZkU L N q hq ps]
theorem ZtL(L:List Bool)(N:Nat)(n:Int)(ps:List AV):Zcj L N 0 (Za9 n ps)=Zcj L N 0 ps:=by
 unfold Za9
 split
 ·rfl
 ·split<;>exact ZkU L N _ rfl ps 0
def ZjJ(L:List Bool):Nat→List AV→List AV
 |_,[]=>[]
 |i,x::xs=>if ZcW L i=true then ZjJ L (i+1) xs else x::ZjJ L (i+1) xs
theorem Zrz(L:List Bool)(f:Nat→AV):∀(t i:Nat),ZjJ L i ((List.range' i t).map f)=ZfJ L f i t
 |0,_=>rfl
 |t+1,i=>by rw[List.range'_succ,List.map_cons,ZjJ,ZfJ,Zrz L f t (i+1)]
theorem ZtJ(L:List Bool)(c d:Int)(N:Nat)(B S:List Int)(K:Nat):ZjJ L 0 (Zkm c d N B S K)=ZfJ L (Zil c d N B S) 0 K:=by
 rw[Zkm,List.range_eq_range',Zrz]
end Go.Proofs.Ytjhdnpmojhkbjaa
/- Packed frames are valid; frames in any order, some more than once, among others. No condition. -/
namespace Go.Proofs.Ytjhdnpmojhkbjaa
theorem ZpE:∀ {ps:List AV},Znl ps=0→∀p∈ps,pkE (kI p) (kC p) (kD p)=0
 |[],_,p,hp=>by simp at hp
 |q::ps,h,p,hp=>by
  unfold Znl at h
  split at h
  ·rename_i h1
   rcases List.mem_cons.1 hp with rfl |hp
   ·exact h1
   ·exact ZpE h p hp
  ·rename_i h1;exact absurd h h1
theorem Zsm{ps:List AV}(h:Zbb ps=0):∀p∈ps,bytP (pkB p):=fun p hp=>by
 have h1:Znl ps=0:=by
  unfold Zbb at h
  split at h
  ·cases h
  ·exact h
 have h2:=ZpE h1 p hp
 unfold pkE at h2
 split at h2
 ·rename_i h3
  split at h2
  ·cases h2
  ·rename_i h4
   obtain⟨h5,h6⟩:=h3
   have h5:=of_decide_eq_true h5
   have h6:=of_decide_eq_true h6
   intro b hb
   simp only[pkB,List.mem_cons]at hb
   rcases hb with rfl |rfl |rfl |hb
   ·exact h5
   ·exact h6
   ·omega
   ·exact ZiU h2 b hb
 ·cases h2
theorem ZlE{k:Int}(h:k≤255):bytP (pkB (Zip k)):=by
 have hk:kD (Zip k)=List.replicate k.toNat 0:=rfl
 intro b hb
 simp only[pkB,List.mem_cons,hk]at hb
 rcases hb with rfl |rfl |rfl |hb
 ·show(0:Int)≤255∧(255:Int)≤255;omega
 ·show(0:Int)≤0∧(0:Int)≤255;omega
 ·rw[List.length_replicate];omega
 ·rw[(List.mem_replicate.1 hb).2];omega
theorem Zqn{n:Int}{ps:List AV}(hn:4≤n∧n≤24)(h:∀p∈ps,bytP (pkB p)):∀p∈Za9 n ps,bytP (pkB p):=fun p hp=>by
 have h1:=Int.tmod_nonneg n (show 0≤(ZaM ps:Int) by omega)
 have h2:=Int.tmod_lt_of_pos (ZaM ps:Int) (show 0<n by omega)
 unfold Za9 at hp
 generalize (ZaM ps:Int).tmod n=R at*
 split at hp
 ·exact h p hp
 ·split at hp
  ·rcases List.mem_append.1 hp with hp |hp
   ·exact h p hp
   ·rw[List.mem_singleton]at hp;subst hp;exact ZlE (by omega)
  ·rcases List.mem_append.1 hp with hp |hp
   ·exact h p hp
   ·rw[List.mem_singleton]at hp;subst hp;exact ZlE (by omega)
theorem Zo2(S:List Int)(x:Int)(N:Int):(0≤Zdj S x N∧Zdj S x N≤N-1)∨Zdj S x N=255:=by
 unfold Zdj
 split
 ·rename_i h
  obtain⟨h1,h2⟩:=h
  have:=(Zqy S x).2 h1
  rw[List.getD_eq_getElem?_getD,List.getElem?_eq_getElem h1,Option.getD_some]at h2⊢
  left;omega
 ·right;rfl
theorem ZoN{xs:List Int}(h:bytP xs):ZaF xs=0:=by
 unfold ZaF
 rw[if_pos]
 rw[List.all_eq_true]
 intro x hx
 exact decide_eq_true (h x hx)
theorem Zwn{hi n f:Int}(h:0≤n∧n≤63)(h2:0≤f∧f≤hi∨f=255):okF hi n f=true:=decide_eq_true ⟨h,h2⟩
theorem Zn1{a b c n f:Int}{ds:List Int}(h1:0≤c∧c≤b-1)(h2:0≤n∧n≤63)(h3:0≤f∧f≤a-1∨f=255)(h4:(ds.length:Int)=a)(h5:bytP ds):Zdg a b c n f ds=0:=by
 unfold Zdg Zby Zak
 rw[if_pos h1,Zwn h2 h3,decide_eq_true h4,ZoN h5]
 rfl
def chS(c':Int)(x:AV):AV:=.agg (.gen [.int .i64 c', .int .i64 (AV.toI (AV.cellAt x 1)), .int .i64 (AV.toI (AV.cellAt x 2)), .list (.ints .i64 (AV.toIs (AV.cellAt x 3)))])
theorem ZB7{N K:Nat}{b c c' d:Int}{Q:List AV}(hB:(Zae Q).length=K*N)(hQ:∀q∈Q,bytP (pkB q))(hd:0≤d)(hc:0≤c'∧c'≤b-1)(i:Nat)(hi:i<K):frE N b (chS c' (Zil c d N (Zae Q) (Zai 0 Q) i))=0:=by
 have h1:(i+1)*N≤K*N:=Nat.mul_le_mul_right N (by omega)
 have h2:=Int.tmod_nonneg 64 (show 0≤d+(i:Int) by omega)
 have h3:=Int.tmod_lt_of_pos (d+(i:Int)) (show (0:Int)<64 by decide)
 have h4:(i+1)*N=i*N+N:=Nat.succ_mul i N
 refine Zn1 hc ⟨h2,by show(d+(i:Int)).tmod 64≤63;omega⟩ (Zo2 _ _ _) ?_ (((Zq0 hQ).drop _).take _)
 show((((Zae Q).drop (i*N)).take N).length:Int)=N
 rw[List.length_take,List.length_drop];omega
theorem Zlg{a b:Int} :∀ {fs:List AV},(∀f∈fs,frE a b f=0)→Zjv a b fs=0
 |[],_=>rfl
 |f::fs,h=>by rw[Zjv,if_pos (h f (by simp))];exact Zlg fun g hg=>h g (by simp[hg])
theorem ZnT{a b:Int}{fs:List AV}(hl:fs.length≤40)(h:∀f∈fs,frE a b f=0):Zsc a b fs=0:=by
 rw[Zsc,if_neg (by omega),Zlg h]
section
variable {N K:Nat}{c d κ:Int}{Q:List AV}(hd:0≤d)(hK:K≤24)
include hd hK
end
end Go.Proofs.Ytjhdnpmojhkbjaa
/- Contracts as a list. No condition. -/
namespace Go.Proofs.Ytjhdnpmojhkbjaa
theorem ZFa(a b c:Int):ZaK Try.prog 16 [.agg (.gen [.int .i64 a, .int .i64 b]), .int .i64 c, .list (.ints .i64 [])] (.tup [.list (.big shP (exO a b c [])), .int .i64 (ZbW a b c [])]) none:=
 ZjS (xs:=[.agg (.gen [.int .i64 a, .int .i64 b]), .int .i64 c]) (ys:=[]) (ZCE a b c [] rfl) rfl
theorem ZxH(xs:List AV)(h:Zpn xs=true):ZaK Try.prog 21 [.list (.big (.agg [.int .i64, .int .i64, .ints .i64]) xs), .nils] (.bool (decide (xs.map pkT=[]))) none:=
 ZrF (Zuw xs [] h) ⟨ZjV _, .one (.nil (.big shP []) rfl),trivial⟩
def k16n:Ctr:=⟨16,0,fun _ a=>match a with |[.agg (.gen [.int .i64 a, .int .i64 b]), .int .i64 c, .list (.ints .i64 [])]=>some (true, .tup [.list (.big shP (exO a b c [])), .int .i64 (ZbW a b c [])],none) |_=>none⟩
theorem ZwU:k16n.OK Try.prog:=fun pa args r fr h=>by
 simp only[k16n]at h
 split at h
 ·cases h
  exact ZFa _ _ _
 ·cases h
def k21n:Ctr:=⟨21,0,fun _ a=>match a with |[.list (.big (.agg [.int .i64, .int .i64, .ints .i64]) xs), .nils]=>some (decide (Zpn xs=true), .bool (decide (xs.map pkT=[])),none) |_=>none⟩
theorem Zz8:k21n.OK Try.prog:=fun pa args r fr h=>by
 simp only[k21n]at h
 split at h
 ·simp only[Option.some.injEq,Prod.mk.injEq,decide_eq_true_eq]at h
  obtain⟨h0,rfl,rfl⟩:=h
  exact ZxH _ h0
 ·cases h
def BW1:List Ctr:=[k16n,k21n]++BOq
theorem ZFj:Zap Try.prog BW1:=⟨ZwU,⟨Zz8,ZCy⟩⟩
def BW0:List Ctr:=[k29,k34,k36,k33,k35]++BW1
theorem Zaz:Zap Try.prog BW0:=⟨Zuo,⟨Zvk,⟨ZuQ,⟨ZB4,⟨ZDW,ZFj⟩⟩⟩⟩⟩
end Go.Proofs.Ytjhdnpmojhkbjaa
/- Paths of functions, printed by the explorer (Gx). No condition. -/
namespace Go.Proofs.Ytjhdnpmojhkbjaa
set_option maxRecDepth 100000
set_option linter.unusedVariables false
def ZLP(a:Int)(b:Int)(c:Int)(d:Int)(ps:List AV)(L:List AV):AFrame:={ fn:=6,N:=197,env:=[(0,AV.agg (Row.gen [AV.int .i64 a,AV.int .i64 b])),(1,AV.agg (Row.gen [AV.int .i64 c,AV.int .i64 d,AV.list (Row.big (Sh.agg [Sh.int .i64,Sh.int .i64,Sh.ints .i64]) ps),AV.list (Row.big Sh.bool L)]))],todo:=[.code a6.code],defs:=[],rnd:=none,ret:=false,res:=[ARes.tmp 4] }
def f6e(a:Int)(b:Int)(c:Int)(d:Int)(ps:List AV)(L:List AV):List AFrame:=[(ZLP a b c d ps L)]
theorem ZDT(a:Int)(b:Int)(c:Int)(d:Int)(ps:List AV)(L:List AV):Zam tab 6 [AV.agg (Row.gen [AV.int .i64 a,AV.int .i64 b]),AV.agg (Row.gen [AV.int .i64 c,AV.int .i64 d,AV.list (Row.big (Sh.agg [Sh.int .i64,Sh.int .i64,Sh.ints .i64]) ps),AV.list (Row.big Sh.bool L)])]=some (ZLP a b c d ps L):=rfl
def Zfg(a b c d:Int)(ps L x0:List AV)(n1:Int):List AFrame:=[{ fn:=6,N:=197,env:=[(2,AV.ptr 6003 0 0 0),(3,AV.ptr 6004 0 0 0),(7,AV.list (Row.big (Sh.agg [Sh.int .i64,Sh.int .i64,Sh.int .i64,Sh.ints .i64]) x0)),(9,AV.nils),(10,AV.int .i64 n1)],todo:=.code (ACode.gh [] ZKc)::ZLQ,defs:=[],rnd:=none,ret:=false,res:=[ARes.tmp 4] }]
def ZdA(a:Int)(b:Int)(c:Int)(d:Int)(ps:List AV)(L:List AV)(x0:List AV)(n1:Int):Zaa:=[(6003,{ base:=0,blks:=[Blk.row 23 2 (Row.gen [AV.agg (Row.gen [AV.int .i64 a,AV.int .i64 b])])] }),(6004,{ base:=0,blks:=[Blk.row 72 4 (Row.gen [AV.agg (Row.gen [AV.int .i64 c,AV.int .i64 d,AV.list (Row.big (Sh.agg [Sh.int .i64,Sh.int .i64,Sh.ints .i64]) ps),AV.list (Row.big Sh.bool L)])])] })]
abbrev ZnA(a:Int)(b:Int)(c:Int)(d:Int)(ps:List AV)(L:List AV)(x0:List AV)(n1:Int):List AFrame×Zaa:=(Zfg a b c d ps L x0 n1,ZdA a b c d ps L x0 n1)
def Ze2(a b c d:Int)(ps L x0:List AV)(n2:Int)(x3:List AV):List AFrame:=[{ fn:=6,N:=197,env:=[(2,AV.ptr 6003 0 0 0),(3,AV.ptr 6004 0 0 0),(7,AV.list (Row.big (Sh.agg [Sh.int .i64,Sh.int .i64,Sh.int .i64,Sh.ints .i64]) x0)),(9,AV.row 6125 0),(10,AV.int .i64 n2)],todo:=.code (ACode.gh [] ZKc)::ZLQ,defs:=[],rnd:=none,ret:=false,res:=[ARes.tmp 4] }]
def ZdM(a:Int)(b:Int)(c:Int)(d:Int)(ps:List AV)(L:List AV)(x0:List AV)(n2:Int)(x3:List AV):Zaa:=[(6003,{ base:=0,blks:=[Blk.row 23 2 (Row.gen [AV.agg (Row.gen [AV.int .i64 a,AV.int .i64 b])])] }),(6004,{ base:=0,blks:=[Blk.row 72 4 (Row.gen [AV.agg (Row.gen [AV.int .i64 c,AV.int .i64 d,AV.list (Row.big (Sh.agg [Sh.int .i64,Sh.int .i64,Sh.ints .i64]) ps),AV.list (Row.big Sh.bool L)])])] }),(6125,{ base:=0,blks:=[Blk.row 74 4 (Row.big (Sh.agg [Sh.int .i64,Sh.int .i64,Sh.int .i64,Sh.ints .i64]) x3)] })]
abbrev ZfD(a:Int)(b:Int)(c:Int)(d:Int)(ps:List AV)(L:List AV)(x0:List AV)(n2:Int)(x3:List AV):List AFrame×Zaa:=(Ze2 a b c d ps L x0 n2 x3,ZdM a b c d ps L x0 n2 x3)
def Zjt(a b c d:Int)(ps L:List AV)(n4 n5:Int):List AFrame:=[{ fn:=6,N:=197,env:=[(2,AV.ptr 6003 0 0 0),(3,AV.ptr 6004 0 0 0),(9,AV.nils),(11,AV.nils),(12,AV.int .i64 n4),(13,AV.int .i64 n5)],todo:=.code (ACode.gh [] ZFw)::ZHp,defs:=[],rnd:=none,ret:=false,res:=[ARes.tmp 4] }]
def ZgW(a:Int)(b:Int)(c:Int)(d:Int)(ps:List AV)(L:List AV)(n4:Int)(n5:Int):Zaa:=[(6003,{ base:=0,blks:=[Blk.row 23 2 (Row.gen [AV.agg (Row.gen [AV.int .i64 a,AV.int .i64 b])])] }),(6004,{ base:=0,blks:=[Blk.row 72 4 (Row.gen [AV.agg (Row.gen [AV.int .i64 c,AV.int .i64 d,AV.list (Row.big (Sh.agg [Sh.int .i64,Sh.int .i64,Sh.ints .i64]) ps),AV.list (Row.big Sh.bool L)])])] })]
abbrev ZnE(a:Int)(b:Int)(c:Int)(d:Int)(ps:List AV)(L:List AV)(n4:Int)(n5:Int):List AFrame×Zaa:=(Zjt a b c d ps L n4 n5,ZgW a b c d ps L n4 n5)
def ZjX(a b c d:Int)(ps L x3:List AV)(n6 n7:Int):List AFrame:=[{ fn:=6,N:=197,env:=[(2,AV.ptr 6003 0 0 0),(3,AV.ptr 6004 0 0 0),(9,AV.row 6125 0),(11,AV.nils),(12,AV.int .i64 n6),(13,AV.int .i64 n7)],todo:=.code (ACode.gh [] ZFw)::ZHp,defs:=[],rnd:=none,ret:=false,res:=[ARes.tmp 4] }]
def Zhf(a:Int)(b:Int)(c:Int)(d:Int)(ps:List AV)(L:List AV)(x3:List AV)(n6:Int)(n7:Int):Zaa:=[(6003,{ base:=0,blks:=[Blk.row 23 2 (Row.gen [AV.agg (Row.gen [AV.int .i64 a,AV.int .i64 b])])] }),(6004,{ base:=0,blks:=[Blk.row 72 4 (Row.gen [AV.agg (Row.gen [AV.int .i64 c,AV.int .i64 d,AV.list (Row.big (Sh.agg [Sh.int .i64,Sh.int .i64,Sh.ints .i64]) ps),AV.list (Row.big Sh.bool L)])])] }),(6125,{ base:=0,blks:=[Blk.row 74 4 (Row.big (Sh.agg [Sh.int .i64,Sh.int .i64,Sh.int .i64,Sh.ints .i64]) x3)] })]
abbrev ZnV(a:Int)(b:Int)(c:Int)(d:Int)(ps:List AV)(L:List AV)(x3:List AV)(n6:Int)(n7:Int):List AFrame×Zaa:=(ZjX a b c d ps L x3 n6 n7,Zhf a b c d ps L x3 n6 n7)
def Ze6(a b c d:Int)(ps L:List AV)(n5 n8:Int)(b9:Bool)(n10 n11 n12:Int)(l13:List Int):List AFrame:=[{ fn:=6,N:=197,env:=[(2,AV.ptr 6003 0 0 0),(3,AV.ptr 6004 0 0 0),(9,AV.nils),(11,AV.nils),(13,AV.int .i64 n5),(14,AV.ptr 6015 0 0 0),(15,AV.int .i64 n8),(16,AV.bool b9),(17,AV.int .i64 n10)],todo:=.code (ACode.gh [] ZCT)::ZHd,defs:=[],rnd:=none,ret:=false,res:=[ARes.tmp 4] }]
def ZdH(a:Int)(b:Int)(c:Int)(d:Int)(ps:List AV)(L:List AV)(n5:Int)(n8:Int)(b9:Bool)(n10:Int)(n11:Int)(n12:Int)(l13:List Int):Zaa:=[(6003,{ base:=0,blks:=[Blk.row 23 2 (Row.gen [AV.agg (Row.gen [AV.int .i64 a,AV.int .i64 b])])] }),(6004,{ base:=0,blks:=[Blk.row 72 4 (Row.gen [AV.agg (Row.gen [AV.int .i64 c,AV.int .i64 d,AV.list (Row.big (Sh.agg [Sh.int .i64,Sh.int .i64,Sh.ints .i64]) ps),AV.list (Row.big Sh.bool L)])])] }),(6015,{ base:=0,blks:=[Blk.row 57 3 (Row.gen [AV.agg (Row.gen [AV.int .i64 n11,AV.int .i64 n12,AV.list (.ints .i64 l13)])])] })]
abbrev Zg6(a:Int)(b:Int)(c:Int)(d:Int)(ps:List AV)(L:List AV)(n5:Int)(n8:Int)(b9:Bool)(n10:Int)(n11:Int)(n12:Int)(l13:List Int):List AFrame×Zaa:=(Ze6 a b c d ps L n5 n8 b9 n10 n11 n12 l13,ZdH a b c d ps L n5 n8 b9 n10 n11 n12 l13)
def Zff(a b c d:Int)(ps L x3:List AV)(n7 n14:Int)(b15:Bool)(n16 n17 n18:Int)(l19:List Int):List AFrame:=[{ fn:=6,N:=197,env:=[(2,AV.ptr 6003 0 0 0),(3,AV.ptr 6004 0 0 0),(9,AV.row 6125 0),(11,AV.nils),(13,AV.int .i64 n7),(14,AV.ptr 6015 0 0 0),(15,AV.int .i64 n14),(16,AV.bool b15),(17,AV.int .i64 n16)],todo:=.code (ACode.gh [] ZCT)::ZHd,defs:=[],rnd:=none,ret:=false,res:=[ARes.tmp 4] }]
def ZdJ(a:Int)(b:Int)(c:Int)(d:Int)(ps:List AV)(L:List AV)(x3:List AV)(n7:Int)(n14:Int)(b15:Bool)(n16:Int)(n17:Int)(n18:Int)(l19:List Int):Zaa:=[(6003,{ base:=0,blks:=[Blk.row 23 2 (Row.gen [AV.agg (Row.gen [AV.int .i64 a,AV.int .i64 b])])] }),(6004,{ base:=0,blks:=[Blk.row 72 4 (Row.gen [AV.agg (Row.gen [AV.int .i64 c,AV.int .i64 d,AV.list (Row.big (Sh.agg [Sh.int .i64,Sh.int .i64,Sh.ints .i64]) ps),AV.list (Row.big Sh.bool L)])])] }),(6015,{ base:=0,blks:=[Blk.row 57 3 (Row.gen [AV.agg (Row.gen [AV.int .i64 n17,AV.int .i64 n18,AV.list (.ints .i64 l19)])])] }),(6125,{ base:=0,blks:=[Blk.row 74 4 (Row.big (Sh.agg [Sh.int .i64,Sh.int .i64,Sh.int .i64,Sh.ints .i64]) x3)] })]
abbrev Zg8(a:Int)(b:Int)(c:Int)(d:Int)(ps:List AV)(L:List AV)(x3:List AV)(n7:Int)(n14:Int)(b15:Bool)(n16:Int)(n17:Int)(n18:Int)(l19:List Int):List AFrame×Zaa:=(Zff a b c d ps L x3 n7 n14 b15 n16 n17 n18 l19,ZdJ a b c d ps L x3 n7 n14 b15 n16 n17 n18 l19)
def Zkc(a b c d:Int)(ps L:List AV)(n20:Int)(x21:List AV)(n22:Int):List AFrame:=[{ fn:=6,N:=197,env:=[(2,AV.ptr 6003 0 0 0),(3,AV.ptr 6004 0 0 0),(9,AV.nils),(11,AV.row 6180 0),(12,AV.int .i64 n22),(13,AV.int .i64 n20)],todo:=.code (ACode.gh [] ZFw)::ZHp,defs:=[],rnd:=none,ret:=false,res:=[ARes.tmp 4] }]
def Zg1(a:Int)(b:Int)(c:Int)(d:Int)(ps:List AV)(L:List AV)(n20:Int)(x21:List AV)(n22:Int):Zaa:=[(6003,{ base:=0,blks:=[Blk.row 23 2 (Row.gen [AV.agg (Row.gen [AV.int .i64 a,AV.int .i64 b])])] }),(6004,{ base:=0,blks:=[Blk.row 72 4 (Row.gen [AV.agg (Row.gen [AV.int .i64 c,AV.int .i64 d,AV.list (Row.big (Sh.agg [Sh.int .i64,Sh.int .i64,Sh.ints .i64]) ps),AV.list (Row.big Sh.bool L)])])] }),(6180,{ base:=0,blks:=[Blk.row 57 3 (Row.big (Sh.agg [Sh.int .i64,Sh.int .i64,Sh.ints .i64]) x21)] })]
abbrev ZjB(a:Int)(b:Int)(c:Int)(d:Int)(ps:List AV)(L:List AV)(n20:Int)(x21:List AV)(n22:Int):List AFrame×Zaa:=(Zkc a b c d ps L n20 x21 n22,Zg1 a b c d ps L n20 x21 n22)
def ZjU(a b c d:Int)(ps L x3:List AV)(n23:Int)(x24:List AV)(n25:Int):List AFrame:=[{ fn:=6,N:=197,env:=[(2,AV.ptr 6003 0 0 0),(3,AV.ptr 6004 0 0 0),(9,AV.row 6125 0),(11,AV.row 6180 0),(12,AV.int .i64 n25),(13,AV.int .i64 n23)],todo:=.code (ACode.gh [] ZFw)::ZHp,defs:=[],rnd:=none,ret:=false,res:=[ARes.tmp 4] }]
def Zhe(a:Int)(b:Int)(c:Int)(d:Int)(ps:List AV)(L:List AV)(x3:List AV)(n23:Int)(x24:List AV)(n25:Int):Zaa:=[(6003,{ base:=0,blks:=[Blk.row 23 2 (Row.gen [AV.agg (Row.gen [AV.int .i64 a,AV.int .i64 b])])] }),(6004,{ base:=0,blks:=[Blk.row 72 4 (Row.gen [AV.agg (Row.gen [AV.int .i64 c,AV.int .i64 d,AV.list (Row.big (Sh.agg [Sh.int .i64,Sh.int .i64,Sh.ints .i64]) ps),AV.list (Row.big Sh.bool L)])])] }),(6125,{ base:=0,blks:=[Blk.row 74 4 (Row.big (Sh.agg [Sh.int .i64,Sh.int .i64,Sh.int .i64,Sh.ints .i64]) x3)] }),(6180,{ base:=0,blks:=[Blk.row 57 3 (Row.big (Sh.agg [Sh.int .i64,Sh.int .i64,Sh.ints .i64]) x24)] })]
abbrev Zjs(a:Int)(b:Int)(c:Int)(d:Int)(ps:List AV)(L:List AV)(x3:List AV)(n23:Int)(x24:List AV)(n25:Int):List AFrame×Zaa:=(ZjU a b c d ps L x3 n23 x24 n25,Zhe a b c d ps L x3 n23 x24 n25)
def Zfb(a b c d:Int)(ps L:List AV)(n20:Int)(x21:List AV)(n26:Int)(b27:Bool)(n28 n29 n30:Int)(l31:List Int):List AFrame:=[{ fn:=6,N:=197,env:=[(2,AV.ptr 6003 0 0 0),(3,AV.ptr 6004 0 0 0),(9,AV.nils),(11,AV.row 6180 0),(13,AV.int .i64 n20),(14,AV.ptr 6015 0 0 0),(15,AV.int .i64 n26),(16,AV.bool b27),(17,AV.int .i64 n28)],todo:=.code (ACode.gh [] ZCT)::ZHd,defs:=[],rnd:=none,ret:=false,res:=[ARes.tmp 4] }]
def ZdE(a:Int)(b:Int)(c:Int)(d:Int)(ps:List AV)(L:List AV)(n20:Int)(x21:List AV)(n26:Int)(b27:Bool)(n28:Int)(n29:Int)(n30:Int)(l31:List Int):Zaa:=[(6003,{ base:=0,blks:=[Blk.row 23 2 (Row.gen [AV.agg (Row.gen [AV.int .i64 a,AV.int .i64 b])])] }),(6004,{ base:=0,blks:=[Blk.row 72 4 (Row.gen [AV.agg (Row.gen [AV.int .i64 c,AV.int .i64 d,AV.list (Row.big (Sh.agg [Sh.int .i64,Sh.int .i64,Sh.ints .i64]) ps),AV.list (Row.big Sh.bool L)])])] }),(6015,{ base:=0,blks:=[Blk.row 57 3 (Row.gen [AV.agg (Row.gen [AV.int .i64 n29,AV.int .i64 n30,AV.list (.ints .i64 l31)])])] }),(6180,{ base:=0,blks:=[Blk.row 57 3 (Row.big (Sh.agg [Sh.int .i64,Sh.int .i64,Sh.ints .i64]) x21)] })]
abbrev Zhb(a:Int)(b:Int)(c:Int)(d:Int)(ps:List AV)(L:List AV)(n20:Int)(x21:List AV)(n26:Int)(b27:Bool)(n28:Int)(n29:Int)(n30:Int)(l31:List Int):List AFrame×Zaa:=(Zfb a b c d ps L n20 x21 n26 b27 n28 n29 n30 l31,ZdE a b c d ps L n20 x21 n26 b27 n28 n29 n30 l31)
def Ze3(a b c d:Int)(ps L x3:List AV)(n23:Int)(x24:List AV)(n32:Int)(b33:Bool)(n34 n35 n36:Int)(l37:List Int):List AFrame:=[{ fn:=6,N:=197,env:=[(2,AV.ptr 6003 0 0 0),(3,AV.ptr 6004 0 0 0),(9,AV.row 6125 0),(11,AV.row 6180 0),(13,AV.int .i64 n23),(14,AV.ptr 6015 0 0 0),(15,AV.int .i64 n32),(16,AV.bool b33),(17,AV.int .i64 n34)],todo:=.code (ACode.gh [] ZCT)::ZHd,defs:=[],rnd:=none,ret:=false,res:=[ARes.tmp 4] }]
def ZdD(a:Int)(b:Int)(c:Int)(d:Int)(ps:List AV)(L:List AV)(x3:List AV)(n23:Int)(x24:List AV)(n32:Int)(b33:Bool)(n34:Int)(n35:Int)(n36:Int)(l37:List Int):Zaa:=[(6003,{ base:=0,blks:=[Blk.row 23 2 (Row.gen [AV.agg (Row.gen [AV.int .i64 a,AV.int .i64 b])])] }),(6004,{ base:=0,blks:=[Blk.row 72 4 (Row.gen [AV.agg (Row.gen [AV.int .i64 c,AV.int .i64 d,AV.list (Row.big (Sh.agg [Sh.int .i64,Sh.int .i64,Sh.ints .i64]) ps),AV.list (Row.big Sh.bool L)])])] }),(6015,{ base:=0,blks:=[Blk.row 57 3 (Row.gen [AV.agg (Row.gen [AV.int .i64 n35,AV.int .i64 n36,AV.list (.ints .i64 l37)])])] }),(6125,{ base:=0,blks:=[Blk.row 74 4 (Row.big (Sh.agg [Sh.int .i64,Sh.int .i64,Sh.int .i64,Sh.ints .i64]) x3)] }),(6180,{ base:=0,blks:=[Blk.row 57 3 (Row.big (Sh.agg [Sh.int .i64,Sh.int .i64,Sh.ints .i64]) x24)] })]
abbrev Zhg(a:Int)(b:Int)(c:Int)(d:Int)(ps:List AV)(L:List AV)(x3:List AV)(n23:Int)(x24:List AV)(n32:Int)(b33:Bool)(n34:Int)(n35:Int)(n36:Int)(l37:List Int):List AFrame×Zaa:=(Ze3 a b c d ps L x3 n23 x24 n32 b33 n34 n35 n36 l37,ZdD a b c d ps L x3 n23 x24 n32 b33 n34 n35 n36 l37)
theorem ZMq(A:Ar)(a b c d:Int)(ps L:List AV):ZaE A tab BW0 61 [false,true,true,true,true,true,true,true,true,true,true,true,true,true,true,true,true,true,true,true,true,true,true,true,true,true,true,true,true] 6 (f6e a b c d ps L) []=
 some (tr [60,5,5] [A.lt 12 (A.int (A.lenA ps)),!A.not true],
  AV.bool true,none):=by kernel_rfl
theorem ZM0(A:Ar)(a b c d:Int)(ps L:List AV):ZaE A tab BW0 61 [false,false,false,false,false,false,true,true,true,true,true,true,true,true,true,true,true,true,true,true,true,true,true,true,true,true,true,true,true] 6 (f6e a b c d ps L) []=
 some (tr [49,10,5,5] [A.not (Zcg ps),!A.lt 12 (A.int (A.lenA ps)),!A.not true],
  AV.bool true,none):=by kernel_rfl
theorem ZL7(A:Ar)(a b c d:Int)(ps L:List AV):ZaE A tab BW0 61 [false,false,false,false,false,false,false,false,false,false,true,true,true,true,true,true,true,true,true,true,true,true,true,true,true,true,true,true,true] 6 (f6e a b c d ps L) []=
 some (tr [40,8,10,5,5] [A.not (A.eq (Zao a b) 0),!A.not (Zcg ps),!A.lt 12 (A.int (A.lenA ps)),!A.not true],
  AV.bool true,none):=by kernel_rfl
theorem ZNz(A:Ar)(a b c d:Int)(ps L:List AV):ZaE A tab BW0 61 [false,false,false,false,false,false,false,false,false,false,false,false,false,false,false,false,false,true,true,true,true,true,true,true,true,true,true,true,true] 6 (f6e a b c d ps L) []=
 some (tr [25,5,8,8,10,5,5] [A.not (A.eq (Zby b c) 0),decide (-1000000≤b∧b≤1000000),!A.not (A.eq (Zao a b) 0),!A.not (Zcg ps),!A.lt 12 (A.int (A.lenA ps)),!A.not true],
  AV.bool true,none):=by kernel_rfl
theorem ZMk(A:Ar)(a b c d:Int)(ps L:List AV):ZaE A tab BW0 61 [false,false,false,false,false,false,false,false,false,false,false,false,false,false,false,false,false,false,false,false,false,false,false,true,true,true,true,true,true] 6 (f6e a b c d ps L) []=
 some (tr [12,12,5,8,8,10,5,5] [A.not (decide (0≤d∧d≤63)),!A.not (A.eq (Zby b c) 0),decide (-1000000≤b∧b≤1000000),!A.not (A.eq (Zao a b) 0),!A.not (Zcg ps),!A.lt 12 (A.int (A.lenA ps)),!A.not true],
  AV.bool true,none):=by kernel_rfl
theorem ZNx(A:Ar)(a b c d:Int)(ps L:List AV):ZaE A tab BW0 61 [false,false,false,false,false,false,false,false,false,false,false,false,false,false,false,false,false,false,false,false,false,false,false,false,false,false,false,false,true] 6 (f6e a b c d ps L) []=
 some (tr [2,4,4,12,5,8,8,10,5,5] [A.not (A.eq (Zbb ps) 0),decide (Zcg ps=true),!A.not (decide (0≤d∧d≤63)),!A.not (A.eq (Zby b c) 0),decide (-1000000≤b∧b≤1000000),!A.not (A.eq (Zao a b) 0),!A.not (Zcg ps),!A.lt 12 (A.int (A.lenA ps)),!A.not true],
  AV.bool true,none):=by kernel_rfl
theorem ZNL(A:Ar)(a b c d:Int)(ps L:List AV):ZaE A tab BW0 84 [false,false,false,false,false,false,false,false,false,false,false,false,false,false,false,false,false,false,false,false,false,false,false,false,false,false,false,false,false,false,false,false,false,true] 6 (f6e a b c d ps L) []=
 some (tr [2,2,5,8,0,3,4,4,12,5,8,8,10,5,5] [A.lt 24 (ffN a b ps),!A.lt (ffN a b ps) 0,!A.not (A.eq (ffE a b ps) 0),decide (Zcg ps=true),decide (Zcg ps=true),!A.not (A.eq (Zbb ps) 0),decide (Zcg ps=true),!A.not (decide (0≤d∧d≤63)),!A.not (A.eq (Zby b c) 0),decide (-1000000≤b∧b≤1000000),!A.not (A.eq (Zao a b) 0),!A.not (Zcg ps),!A.lt 12 (A.int (A.lenA ps)),!A.not true],
  AV.bool true,none):=by kernel_rfl
theorem ZMx(A:Ar)(a b c d:Int)(ps L:List AV):Zad A tab BW0 116 [false,false,false,false,false,false,false,false,false,false,false,false,false,false,false,false,false,false,false,false,false,false,false,false,false,false,false,false,false,false,false,false,false,false,false,false,false,false,false,false,false,false,false,false,false] (f6e a b c d ps L) []=
 some (tr [2,4,4,10,8,0,5,2,5,8,0,3,4,4,12,5,8,8,10,5,5] [!A.not (A.eq (Zsc a b (Znp a b c d ps)) 0),decide (ZDS a b (Znp a b c d ps)=true),!A.not (A.eq (A.int (A.lenA (Znp a b c d ps))) (ffN a b ps)),!A.not (A.eq (Zoo a b c d ps) 0),decide (Zcg ps=true),decide (Zcg ps=true),!A.lt 24 (ffN a b ps),!A.lt (ffN a b ps) 0,!A.not (A.eq (ffE a b ps) 0),decide (Zcg ps=true),decide (Zcg ps=true),!A.not (A.eq (Zbb ps) 0),decide (Zcg ps=true),!A.not (decide (0≤d∧d≤63)),!A.not (A.eq (Zby b c) 0),decide (-1000000≤b∧b≤1000000),!A.not (A.eq (Zao a b) 0),!A.not (Zcg ps),!A.lt 12 (A.int (A.lenA ps)),!A.not true],
  ZnA (a) (b) (c) (d) (ps) (L) (Znp a b c d ps) (0)):=by kernel_rfl
theorem ZNf(A:Ar)(a b c d:Int)(ps L x0:List AV)(n1:Int):Zad A tab BW0 50 [true,true,true,true,true,true,true,true,true] (Zfg a b c d ps L x0 n1) (ZdA a b c d ps L x0 n1)=
 some (tr [1,2,0,0,1,17,6,4] [A.inR .i64 (A.add n1 1),Zab (Nat.ble (A.lenA [AV.agg (Row.gen [.int .i64 ((A.nthA x0 (A.nat n1)).cellAt 0).toI, .int .i64 ((A.nthA x0 (A.nat n1)).cellAt 1).toI, .int .i64 ((A.nthA x0 (A.nat n1)).cellAt 2).toI, .list (.ints .i64 ((A.nthA x0 (A.nat n1)).cellAt 3).toIs)])]) 4294967296) (Nat.blt 0 (A.lenA [AV.agg (Row.gen [.int .i64 ((A.nthA x0 (A.nat n1)).cellAt 0).toI, .int .i64 ((A.nthA x0 (A.nat n1)).cellAt 1).toI, .int .i64 ((A.nthA x0 (A.nat n1)).cellAt 2).toI, .list (.ints .i64 ((A.nthA x0 (A.nat n1)).cellAt 3).toIs)])])),List.all [AV.agg (Row.gen [.int .i64 ((A.nthA x0 (A.nat n1)).cellAt 0).toI, .int .i64 ((A.nthA x0 (A.nat n1)).cellAt 1).toI, .int .i64 ((A.nthA x0 (A.nat n1)).cellAt 2).toI, .list (.ints .i64 ((A.nthA x0 (A.nat n1)).cellAt 3).toIs)])] fun x=>AV.bx x&&Nat.beq (Zac A x) 4,decide (List.length ((A.nthA x0 (A.nat n1)).cellAt 3).toIs≤4294967296),Zab (Zab (A.le 0 n1) (Nat.blt (A.nat n1) (A.lenA x0))) true,A.le (A.int (A.lenA L)) n1,A.lt n1 (A.int (A.lenA x0))],
  ZfD (a) (b) (c) (d) (ps) (L) (x0) (A.add n1 1) ([AV.agg (Row.gen [.int .i64 ((A.nthA x0 (A.nat n1)).cellAt 0).toI, .int .i64 ((A.nthA x0 (A.nat n1)).cellAt 1).toI, .int .i64 ((A.nthA x0 (A.nat n1)).cellAt 2).toI, .list (.ints .i64 ((A.nthA x0 (A.nat n1)).cellAt 3).toIs)])])):=by kernel_rfl
theorem ZM1(A:Ar)(a b c d:Int)(ps L x0:List AV)(n1:Int):Zad A tab BW0 50 [true,false,false,false,false,false,false,false,true] (Zfg a b c d ps L x0 n1) (ZdA a b c d ps L x0 n1)=
 some (tr [1,2,0,0,1,3,6,6,6,4] [A.inR .i64 (A.add n1 1),Zab (Nat.ble (A.lenA [AV.agg (Row.gen [.int .i64 ((A.nthA x0 (A.nat n1)).cellAt 0).toI, .int .i64 ((A.nthA x0 (A.nat n1)).cellAt 1).toI, .int .i64 ((A.nthA x0 (A.nat n1)).cellAt 2).toI, .list (.ints .i64 ((A.nthA x0 (A.nat n1)).cellAt 3).toIs)])]) 4294967296) (Nat.blt 0 (A.lenA [AV.agg (Row.gen [.int .i64 ((A.nthA x0 (A.nat n1)).cellAt 0).toI, .int .i64 ((A.nthA x0 (A.nat n1)).cellAt 1).toI, .int .i64 ((A.nthA x0 (A.nat n1)).cellAt 2).toI, .list (.ints .i64 ((A.nthA x0 (A.nat n1)).cellAt 3).toIs)])])),List.all [AV.agg (Row.gen [.int .i64 ((A.nthA x0 (A.nat n1)).cellAt 0).toI, .int .i64 ((A.nthA x0 (A.nat n1)).cellAt 1).toI, .int .i64 ((A.nthA x0 (A.nat n1)).cellAt 2).toI, .list (.ints .i64 ((A.nthA x0 (A.nat n1)).cellAt 3).toIs)])] fun x=>AV.bx x&&Nat.beq (Zac A x) 4,decide (List.length ((A.nthA x0 (A.nat n1)).cellAt 3).toIs≤4294967296),Zab (Zab (A.le 0 n1) (Nat.blt (A.nat n1) (A.lenA x0))) true,A.not (AV.toB (A.nthA L (A.nat n1))),Zab (Zab (A.le 0 n1) (Nat.blt (A.nat n1) (A.lenA L))) true,!A.le (A.int (A.lenA L)) n1,A.lt n1 (A.int (A.lenA x0))],
  ZfD (a) (b) (c) (d) (ps) (L) (x0) (A.add n1 1) ([AV.agg (Row.gen [.int .i64 ((A.nthA x0 (A.nat n1)).cellAt 0).toI, .int .i64 ((A.nthA x0 (A.nat n1)).cellAt 1).toI, .int .i64 ((A.nthA x0 (A.nat n1)).cellAt 2).toI, .list (.ints .i64 ((A.nthA x0 (A.nat n1)).cellAt 3).toIs)])])):=by kernel_rfl
theorem ZLg(A:Ar)(a b c d:Int)(ps L x0:List AV)(n1:Int):Zad A tab BW0 40 [true,false,false,false,false,false,false,false,false] (Zfg a b c d ps L x0 n1) (ZdA a b c d ps L x0 n1)=
 some (tr [1,1,6,6,6,4] [A.inR .i64 (A.add n1 1),!A.not (AV.toB (A.nthA L (A.nat n1))),Zab (Zab (A.le 0 n1) (Nat.blt (A.nat n1) (A.lenA L))) true,!A.le (A.int (A.lenA L)) n1,A.lt n1 (A.int (A.lenA x0))],
  ZnA (a) (b) (c) (d) (ps) (L) (x0) (A.add n1 1)):=by kernel_rfl
theorem ZJo(A:Ar)(a b c d:Int)(ps L x0:List AV)(n1:Int):Zad A tab BW0 27 [false] (Zfg a b c d ps L x0 n1) (ZdA a b c d ps L x0 n1)=
 some (tr [3,4] [!A.lt n1 (A.int (A.lenA x0))],
  ZnE (a) (b) (c) (d) (ps) (L) (0) (0)):=by kernel_rfl
theorem ZKu(A:Ar)(a b c d:Int)(ps L x0:List AV)(n2:Int)(x3:List AV):Zad A tab BW0 50 [true,true,true,true,true,true,true,true,true] (Ze2 a b c d ps L x0 n2 x3) (ZdM a b c d ps L x0 n2 x3)=
 some (tr [1,2,0,0,1,17,6,4] [A.inR .i64 (A.add n2 1),Nat.ble (A.lenA x3+A.lenA [AV.agg (Row.gen [.int .i64 ((A.nthA x0 (A.nat n2)).cellAt 0).toI, .int .i64 ((A.nthA x0 (A.nat n2)).cellAt 1).toI, .int .i64 ((A.nthA x0 (A.nat n2)).cellAt 2).toI, .list (.ints .i64 ((A.nthA x0 (A.nat n2)).cellAt 3).toIs)])]) 4294967296,List.all [AV.agg (Row.gen [.int .i64 ((A.nthA x0 (A.nat n2)).cellAt 0).toI, .int .i64 ((A.nthA x0 (A.nat n2)).cellAt 1).toI, .int .i64 ((A.nthA x0 (A.nat n2)).cellAt 2).toI, .list (.ints .i64 ((A.nthA x0 (A.nat n2)).cellAt 3).toIs)])] fun x=>AV.bx x&&Nat.beq (Zac A x) 4,decide (List.length ((A.nthA x0 (A.nat n2)).cellAt 3).toIs≤4294967296),Zab (Zab (A.le 0 n2) (Nat.blt (A.nat n2) (A.lenA x0))) true,A.le (A.int (A.lenA L)) n2,A.lt n2 (A.int (A.lenA x0))],
  ZfD (a) (b) (c) (d) (ps) (L) (x0) (A.add n2 1) (A.appA x3 [AV.agg (Row.gen [.int .i64 ((A.nthA x0 (A.nat n2)).cellAt 0).toI, .int .i64 ((A.nthA x0 (A.nat n2)).cellAt 1).toI, .int .i64 ((A.nthA x0 (A.nat n2)).cellAt 2).toI, .list (.ints .i64 ((A.nthA x0 (A.nat n2)).cellAt 3).toIs)])])):=by kernel_rfl
theorem ZJP(A:Ar)(a b c d:Int)(ps L x0:List AV)(n2:Int)(x3:List AV):Zad A tab BW0 50 [true,false,false,false,false,false,false,false,true] (Ze2 a b c d ps L x0 n2 x3) (ZdM a b c d ps L x0 n2 x3)=
 some (tr [1,2,0,0,1,3,6,6,6,4] [A.inR .i64 (A.add n2 1),Nat.ble (A.lenA x3+A.lenA [AV.agg (Row.gen [.int .i64 ((A.nthA x0 (A.nat n2)).cellAt 0).toI, .int .i64 ((A.nthA x0 (A.nat n2)).cellAt 1).toI, .int .i64 ((A.nthA x0 (A.nat n2)).cellAt 2).toI, .list (.ints .i64 ((A.nthA x0 (A.nat n2)).cellAt 3).toIs)])]) 4294967296,List.all [AV.agg (Row.gen [.int .i64 ((A.nthA x0 (A.nat n2)).cellAt 0).toI, .int .i64 ((A.nthA x0 (A.nat n2)).cellAt 1).toI, .int .i64 ((A.nthA x0 (A.nat n2)).cellAt 2).toI, .list (.ints .i64 ((A.nthA x0 (A.nat n2)).cellAt 3).toIs)])] fun x=>AV.bx x&&Nat.beq (Zac A x) 4,decide (List.length ((A.nthA x0 (A.nat n2)).cellAt 3).toIs≤4294967296),Zab (Zab (A.le 0 n2) (Nat.blt (A.nat n2) (A.lenA x0))) true,A.not (AV.toB (A.nthA L (A.nat n2))),Zab (Zab (A.le 0 n2) (Nat.blt (A.nat n2) (A.lenA L))) true,!A.le (A.int (A.lenA L)) n2,A.lt n2 (A.int (A.lenA x0))],
  ZfD (a) (b) (c) (d) (ps) (L) (x0) (A.add n2 1) (A.appA x3 [AV.agg (Row.gen [.int .i64 ((A.nthA x0 (A.nat n2)).cellAt 0).toI, .int .i64 ((A.nthA x0 (A.nat n2)).cellAt 1).toI, .int .i64 ((A.nthA x0 (A.nat n2)).cellAt 2).toI, .list (.ints .i64 ((A.nthA x0 (A.nat n2)).cellAt 3).toIs)])])):=by kernel_rfl
theorem ZI9(A:Ar)(a b c d:Int)(ps L x0:List AV)(n2:Int)(x3:List AV):Zad A tab BW0 40 [true,false,false,false,false,false,false,false,false] (Ze2 a b c d ps L x0 n2 x3) (ZdM a b c d ps L x0 n2 x3)=
 some (tr [1,1,6,6,6,4] [A.inR .i64 (A.add n2 1),!A.not (AV.toB (A.nthA L (A.nat n2))),Zab (Zab (A.le 0 n2) (Nat.blt (A.nat n2) (A.lenA L))) true,!A.le (A.int (A.lenA L)) n2,A.lt n2 (A.int (A.lenA x0))],
  ZfD (a) (b) (c) (d) (ps) (L) (x0) (A.add n2 1) (x3)):=by kernel_rfl
theorem ZIY(A:Ar)(a b c d:Int)(ps L x0:List AV)(n2:Int)(x3:List AV):Zad A tab BW0 27 [false] (Ze2 a b c d ps L x0 n2 x3) (ZdM a b c d ps L x0 n2 x3)=
 some (tr [3,4] [!A.lt n2 (A.int (A.lenA x0))],
  ZnV (a) (b) (c) (d) (ps) (L) (x3) (0) (0)):=by kernel_rfl
theorem ZIL(A:Ar)(a b c d:Int)(ps L:List AV)(n4 n5:Int):Zad A tab BW0 54 [true] (Zjt a b c d ps L n4 n5) (ZgW a b c d ps L n4 n5)=
 some (tr [1,8,3,4,3,5] [Zab (A.not (A.eq a 0)) (A.inR .i64 (A.quo n4 a)),A.inR .i64 (A.add (A.add n4 3) (A.int (A.len ((A.nthA ps (A.nat n5)).cellAt 2).toIs))),A.inR .i64 (A.add n4 3),Zab (Zab (A.le 0 n5) (Nat.blt (A.nat n5) (A.lenA ps))) true,A.lt n5 (A.int (A.lenA ps))],
  Zg6 (a) (b) (c) (d) (ps) (L) (n5) (A.add (A.add n4 3) (A.int (A.len ((A.nthA ps (A.nat n5)).cellAt 2).toIs))) (A.not (A.eq ((A.nthA ps (A.nat n5)).cellAt 0).toI 255)) (A.quo n4 a) ((A.nthA ps (A.nat n5)).cellAt 0).toI ((A.nthA ps (A.nat n5)).cellAt 1).toI ((A.nthA ps (A.nat n5)).cellAt 2).toIs):=by kernel_rfl
theorem ZJN(A:Ar)(a b c d:Int)(ps L:List AV)(n4 n5:Int):ZaE A tab BW0 41 [false,true,true,true,true] 6 (Zjt a b c d ps L n4 n5) (ZgW a b c d ps L n4 n5)=
 some (tr [4,4,14,5] [decide (Zpn (exO a b c [])=true),A.eq (ZbW a b c []) 0,!A.lt n5 (A.int (A.lenA ps))],
  AV.bool (decide (List.map pkT (exO a b c [])=[])),none):=by kernel_rfl
theorem ZJB(A:Ar)(a b c d:Int)(ps L x3:List AV)(n6 n7:Int):Zad A tab BW0 54 [true] (ZjX a b c d ps L x3 n6 n7) (Zhf a b c d ps L x3 n6 n7)=
 some (tr [1,8,3,4,3,5] [Zab (A.not (A.eq a 0)) (A.inR .i64 (A.quo n6 a)),A.inR .i64 (A.add (A.add n6 3) (A.int (A.len ((A.nthA ps (A.nat n7)).cellAt 2).toIs))),A.inR .i64 (A.add n6 3),Zab (Zab (A.le 0 n7) (Nat.blt (A.nat n7) (A.lenA ps))) true,A.lt n7 (A.int (A.lenA ps))],
  Zg8 (a) (b) (c) (d) (ps) (L) (x3) (n7) (A.add (A.add n6 3) (A.int (A.len ((A.nthA ps (A.nat n7)).cellAt 2).toIs))) (A.not (A.eq ((A.nthA ps (A.nat n7)).cellAt 0).toI 255)) (A.quo n6 a) ((A.nthA ps (A.nat n7)).cellAt 0).toI ((A.nthA ps (A.nat n7)).cellAt 1).toI ((A.nthA ps (A.nat n7)).cellAt 2).toIs):=by kernel_rfl
theorem ZI4(A:Ar)(a b c d:Int)(ps L x3:List AV)(n6 n7:Int):ZaE A tab BW0 41 [false,true,true,true,true] 6 (ZjX a b c d ps L x3 n6 n7) (Zhf a b c d ps L x3 n6 n7)=
 some (tr [4,4,8,5,5] [decide (Zpn (exO a b c x3)=true),A.eq (ZbW a b c x3) 0,decide (ZcJ x3=true),!A.lt n7 (A.int (A.lenA ps))],
  AV.bool (decide (List.map pkT (exO a b c x3)=[])),none):=by kernel_rfl
theorem ZHH(A:Ar)(a b c d:Int)(ps L:List AV)(n5 n8:Int)(b9:Bool)(n10 n11 n12:Int)(l13:List Int):Zad A tab BW0 44 [true,true,true,true,true,true,true,true,true,true,true,true,true,true,true,true] (Ze6 a b c d ps L n5 n8 b9 n10 n11 n12 l13) (ZdH a b c d ps L n5 n8 b9 n10 n11 n12 l13)=
 some (tr [1,18,11,2,1,2,2] [A.inR .i64 (A.add n10 1),A.le (A.int (A.lenA L)) n10,b9,A.le n10 (A.quo (A.sub n8 1) a),Zab (A.not (A.eq a 0)) (A.inR .i64 (A.quo (A.sub n8 1) a)),A.inR .i64 (A.sub n8 1)],
  Zg6 (a) (b) (c) (d) (ps) (L) (n5) (n8) (true) (A.add n10 1) (n11) (n12) (l13)):=by kernel_rfl
theorem ZIR(A:Ar)(a b c d:Int)(ps L:List AV)(n5 n8:Int)(b9:Bool)(n10 n11 n12:Int)(l13:List Int):Zad A tab BW0 44 [true,true,true,true,true,true,true,false,false,false,false,false,false,true,false,true] (Ze6 a b c d ps L n5 n8 b9 n10 n11 n12 l13) (ZdH a b c d ps L n5 n8 b9 n10 n11 n12 l13)=
 some (tr [1,11,6,11,2,1,2,2] [A.inR .i64 (A.add n10 1),Zab (Zab (A.le 0 n10) (Nat.blt (A.nat n10) (A.lenA L))) true,!A.le (A.int (A.lenA L)) n10,b9,A.le n10 (A.quo (A.sub n8 1) a),Zab (A.not (A.eq a 0)) (A.inR .i64 (A.quo (A.sub n8 1) a)),A.inR .i64 (A.sub n8 1)],
  Zg6 (a) (b) (c) (d) (ps) (L) (n5) (n8) (A.not (AV.toB (A.nthA L (A.nat n10)))) (A.add n10 1) (n11) (n12) (l13)):=by kernel_rfl
theorem ZKx(A:Ar)(a b c d:Int)(ps L:List AV)(n5 n8:Int)(b9:Bool)(n10 n11 n12:Int)(l13:List Int):Zad A tab BW0 44 [true,false,false,false,false,false,false,false,false] (Ze6 a b c d ps L n5 n8 b9 n10 n11 n12 l13) (ZdH a b c d ps L n5 n8 b9 n10 n11 n12 l13)=
 some (tr [1,23,2,1,2,2] [A.inR .i64 (A.add n10 1),!b9,A.le n10 (A.quo (A.sub n8 1) a),Zab (A.not (A.eq a 0)) (A.inR .i64 (A.quo (A.sub n8 1) a)),A.inR .i64 (A.sub n8 1)],
  Zg6 (a) (b) (c) (d) (ps) (L) (n5) (n8) (false) (A.add n10 1) (n11) (n12) (l13)):=by kernel_rfl
theorem ZKN(A:Ar)(a b c d:Int)(ps L:List AV)(n5 n8:Int)(b9:Bool)(n10 n11 n12:Int)(l13:List Int):Zad A tab BW0 40 [false,true] (Ze6 a b c d ps L n5 n8 b9 n10 n11 n12 l13) (ZdH a b c d ps L n5 n8 b9 n10 n11 n12 l13)=
 some (tr [1,4,0,2,1,1,2,2] [A.inR .i64 (A.add n5 1),Zab (Nat.ble (A.lenA [AV.agg (Row.gen [.int .i64 n11, .int .i64 n12, .list (.ints .i64 l13)])]) 4294967296) (Nat.blt 0 (A.lenA [AV.agg (Row.gen [.int .i64 n11, .int .i64 n12, .list (.ints .i64 l13)])])),List.all [AV.agg (Row.gen [.int .i64 n11, .int .i64 n12, .list (.ints .i64 l13)])] fun x=>AV.bx x&&Nat.beq (Zac A x) 3,b9,!A.le n10 (A.quo (A.sub n8 1) a),Zab (A.not (A.eq a 0)) (A.inR .i64 (A.quo (A.sub n8 1) a)),A.inR .i64 (A.sub n8 1)],
  ZjB (a) (b) (c) (d) (ps) (L) (A.add n5 1) ([AV.agg (Row.gen [.int .i64 n11, .int .i64 n12, .list (.ints .i64 l13)])]) (n8)):=by kernel_rfl
theorem ZLe(A:Ar)(a b c d:Int)(ps L:List AV)(n5 n8:Int)(b9:Bool)(n10 n11 n12:Int)(l13:List Int):Zad A tab BW0 34 [false,false] (Ze6 a b c d ps L n5 n8 b9 n10 n11 n12 l13) (ZdH a b c d ps L n5 n8 b9 n10 n11 n12 l13)=
 some (tr [1,3,1,1,2,2] [A.inR .i64 (A.add n5 1),!b9,!A.le n10 (A.quo (A.sub n8 1) a),Zab (A.not (A.eq a 0)) (A.inR .i64 (A.quo (A.sub n8 1) a)),A.inR .i64 (A.sub n8 1)],
  ZnE (a) (b) (c) (d) (ps) (L) (n8) (A.add n5 1)):=by kernel_rfl
theorem ZKd(A:Ar)(a b c d:Int)(ps L x3:List AV)(n7 n14:Int)(b15:Bool)(n16 n17 n18:Int)(l19:List Int):Zad A tab BW0 44 [true,true,true,true,true,true,true,true,true,true,true,true,true,true,true,true] (Zff a b c d ps L x3 n7 n14 b15 n16 n17 n18 l19) (ZdJ a b c d ps L x3 n7 n14 b15 n16 n17 n18 l19)=
 some (tr [1,18,11,2,1,2,2] [A.inR .i64 (A.add n16 1),A.le (A.int (A.lenA L)) n16,b15,A.le n16 (A.quo (A.sub n14 1) a),Zab (A.not (A.eq a 0)) (A.inR .i64 (A.quo (A.sub n14 1) a)),A.inR .i64 (A.sub n14 1)],
  Zg8 (a) (b) (c) (d) (ps) (L) (x3) (n7) (n14) (true) (A.add n16 1) (n17) (n18) (l19)):=by kernel_rfl
theorem ZIA(A:Ar)(a b c d:Int)(ps L x3:List AV)(n7 n14:Int)(b15:Bool)(n16 n17 n18:Int)(l19:List Int):Zad A tab BW0 44 [true,true,true,true,true,true,true,false,false,false,false,false,false,true,false,true] (Zff a b c d ps L x3 n7 n14 b15 n16 n17 n18 l19) (ZdJ a b c d ps L x3 n7 n14 b15 n16 n17 n18 l19)=
 some (tr [1,11,6,11,2,1,2,2] [A.inR .i64 (A.add n16 1),Zab (Zab (A.le 0 n16) (Nat.blt (A.nat n16) (A.lenA L))) true,!A.le (A.int (A.lenA L)) n16,b15,A.le n16 (A.quo (A.sub n14 1) a),Zab (A.not (A.eq a 0)) (A.inR .i64 (A.quo (A.sub n14 1) a)),A.inR .i64 (A.sub n14 1)],
  Zg8 (a) (b) (c) (d) (ps) (L) (x3) (n7) (n14) (A.not (AV.toB (A.nthA L (A.nat n16)))) (A.add n16 1) (n17) (n18) (l19)):=by kernel_rfl
theorem ZKS(A:Ar)(a b c d:Int)(ps L x3:List AV)(n7 n14:Int)(b15:Bool)(n16 n17 n18:Int)(l19:List Int):Zad A tab BW0 44 [true,false,false,false,false,false,false,false,false] (Zff a b c d ps L x3 n7 n14 b15 n16 n17 n18 l19) (ZdJ a b c d ps L x3 n7 n14 b15 n16 n17 n18 l19)=
 some (tr [1,23,2,1,2,2] [A.inR .i64 (A.add n16 1),!b15,A.le n16 (A.quo (A.sub n14 1) a),Zab (A.not (A.eq a 0)) (A.inR .i64 (A.quo (A.sub n14 1) a)),A.inR .i64 (A.sub n14 1)],
  Zg8 (a) (b) (c) (d) (ps) (L) (x3) (n7) (n14) (false) (A.add n16 1) (n17) (n18) (l19)):=by kernel_rfl
theorem ZKL(A:Ar)(a b c d:Int)(ps L x3:List AV)(n7 n14:Int)(b15:Bool)(n16 n17 n18:Int)(l19:List Int):Zad A tab BW0 40 [false,true] (Zff a b c d ps L x3 n7 n14 b15 n16 n17 n18 l19) (ZdJ a b c d ps L x3 n7 n14 b15 n16 n17 n18 l19)=
 some (tr [1,4,0,2,1,1,2,2] [A.inR .i64 (A.add n7 1),Zab (Nat.ble (A.lenA [AV.agg (Row.gen [.int .i64 n17, .int .i64 n18, .list (.ints .i64 l19)])]) 4294967296) (Nat.blt 0 (A.lenA [AV.agg (Row.gen [.int .i64 n17, .int .i64 n18, .list (.ints .i64 l19)])])),List.all [AV.agg (Row.gen [.int .i64 n17, .int .i64 n18, .list (.ints .i64 l19)])] fun x=>AV.bx x&&Nat.beq (Zac A x) 3,b15,!A.le n16 (A.quo (A.sub n14 1) a),Zab (A.not (A.eq a 0)) (A.inR .i64 (A.quo (A.sub n14 1) a)),A.inR .i64 (A.sub n14 1)],
  Zjs (a) (b) (c) (d) (ps) (L) (x3) (A.add n7 1) ([AV.agg (Row.gen [.int .i64 n17, .int .i64 n18, .list (.ints .i64 l19)])]) (n14)):=by kernel_rfl
theorem ZKW(A:Ar)(a b c d:Int)(ps L x3:List AV)(n7 n14:Int)(b15:Bool)(n16 n17 n18:Int)(l19:List Int):Zad A tab BW0 34 [false,false] (Zff a b c d ps L x3 n7 n14 b15 n16 n17 n18 l19) (ZdJ a b c d ps L x3 n7 n14 b15 n16 n17 n18 l19)=
 some (tr [1,3,1,1,2,2] [A.inR .i64 (A.add n7 1),!b15,!A.le n16 (A.quo (A.sub n14 1) a),Zab (A.not (A.eq a 0)) (A.inR .i64 (A.quo (A.sub n14 1) a)),A.inR .i64 (A.sub n14 1)],
  ZnV (a) (b) (c) (d) (ps) (L) (x3) (n14) (A.add n7 1)):=by kernel_rfl
theorem ZK5(A:Ar)(a b c d:Int)(ps L:List AV)(n20:Int)(x21:List AV)(n22:Int):Zad A tab BW0 54 [true] (Zkc a b c d ps L n20 x21 n22) (Zg1 a b c d ps L n20 x21 n22)=
 some (tr [1,8,3,4,3,5] [Zab (A.not (A.eq a 0)) (A.inR .i64 (A.quo n22 a)),A.inR .i64 (A.add (A.add n22 3) (A.int (A.len ((A.nthA ps (A.nat n20)).cellAt 2).toIs))),A.inR .i64 (A.add n22 3),Zab (Zab (A.le 0 n20) (Nat.blt (A.nat n20) (A.lenA ps))) true,A.lt n20 (A.int (A.lenA ps))],
  Zhb (a) (b) (c) (d) (ps) (L) (n20) (x21) (A.add (A.add n22 3) (A.int (A.len ((A.nthA ps (A.nat n20)).cellAt 2).toIs))) (A.not (A.eq ((A.nthA ps (A.nat n20)).cellAt 0).toI 255)) (A.quo n22 a) ((A.nthA ps (A.nat n20)).cellAt 0).toI ((A.nthA ps (A.nat n20)).cellAt 1).toI ((A.nthA ps (A.nat n20)).cellAt 2).toIs):=by kernel_rfl
theorem ZJ6(A:Ar)(a b c d:Int)(ps L:List AV)(n20:Int)(x21:List AV)(n22:Int):ZaE A tab BW0 41 [false,true,true,true,true] 6 (Zkc a b c d ps L n20 x21 n22) (Zg1 a b c d ps L n20 x21 n22)=
 some (tr [4,4,14,5] [decide (Zpn (exO a b c [])=true),A.eq (ZbW a b c []) 0,!A.lt n20 (A.int (A.lenA ps))],
  AV.bool (decide (List.map pkT (exO a b c [])=List.map pkT x21)),none):=by kernel_rfl
theorem ZIS(A:Ar)(a b c d:Int)(ps L x3:List AV)(n23:Int)(x24:List AV)(n25:Int):Zad A tab BW0 54 [true] (ZjU a b c d ps L x3 n23 x24 n25) (Zhe a b c d ps L x3 n23 x24 n25)=
 some (tr [1,8,3,4,3,5] [Zab (A.not (A.eq a 0)) (A.inR .i64 (A.quo n25 a)),A.inR .i64 (A.add (A.add n25 3) (A.int (A.len ((A.nthA ps (A.nat n23)).cellAt 2).toIs))),A.inR .i64 (A.add n25 3),Zab (Zab (A.le 0 n23) (Nat.blt (A.nat n23) (A.lenA ps))) true,A.lt n23 (A.int (A.lenA ps))],
  Zhg (a) (b) (c) (d) (ps) (L) (x3) (n23) (x24) (A.add (A.add n25 3) (A.int (A.len ((A.nthA ps (A.nat n23)).cellAt 2).toIs))) (A.not (A.eq ((A.nthA ps (A.nat n23)).cellAt 0).toI 255)) (A.quo n25 a) ((A.nthA ps (A.nat n23)).cellAt 0).toI ((A.nthA ps (A.nat n23)).cellAt 1).toI ((A.nthA ps (A.nat n23)).cellAt 2).toIs):=by kernel_rfl
theorem ZH7(A:Ar)(a b c d:Int)(ps L x3:List AV)(n23:Int)(x24:List AV)(n25:Int):ZaE A tab BW0 41 [false,true,true,true,true] 6 (ZjU a b c d ps L x3 n23 x24 n25) (Zhe a b c d ps L x3 n23 x24 n25)=
 some (tr [4,4,8,5,5] [decide (Zpn (exO a b c x3)=true),A.eq (ZbW a b c x3) 0,decide (ZcJ x3=true),!A.lt n23 (A.int (A.lenA ps))],
  AV.bool (decide (List.map pkT (exO a b c x3)=List.map pkT x24)),none):=by kernel_rfl
theorem ZIp(A:Ar)(a b c d:Int)(ps L:List AV)(n20:Int)(x21:List AV)(n26:Int)(b27:Bool)(n28 n29 n30:Int)(l31:List Int):Zad A tab BW0 44 [true,true,true,true,true,true,true,true,true,true,true,true,true,true,true,true] (Zfb a b c d ps L n20 x21 n26 b27 n28 n29 n30 l31) (ZdE a b c d ps L n20 x21 n26 b27 n28 n29 n30 l31)=
 some (tr [1,18,11,2,1,2,2] [A.inR .i64 (A.add n28 1),A.le (A.int (A.lenA L)) n28,b27,A.le n28 (A.quo (A.sub n26 1) a),Zab (A.not (A.eq a 0)) (A.inR .i64 (A.quo (A.sub n26 1) a)),A.inR .i64 (A.sub n26 1)],
  Zhb (a) (b) (c) (d) (ps) (L) (n20) (x21) (n26) (true) (A.add n28 1) (n29) (n30) (l31)):=by kernel_rfl
theorem ZKU(A:Ar)(a b c d:Int)(ps L:List AV)(n20:Int)(x21:List AV)(n26:Int)(b27:Bool)(n28 n29 n30:Int)(l31:List Int):Zad A tab BW0 44 [true,true,true,true,true,true,true,false,false,false,false,false,false,true,false,true] (Zfb a b c d ps L n20 x21 n26 b27 n28 n29 n30 l31) (ZdE a b c d ps L n20 x21 n26 b27 n28 n29 n30 l31)=
 some (tr [1,11,6,11,2,1,2,2] [A.inR .i64 (A.add n28 1),Zab (Zab (A.le 0 n28) (Nat.blt (A.nat n28) (A.lenA L))) true,!A.le (A.int (A.lenA L)) n28,b27,A.le n28 (A.quo (A.sub n26 1) a),Zab (A.not (A.eq a 0)) (A.inR .i64 (A.quo (A.sub n26 1) a)),A.inR .i64 (A.sub n26 1)],
  Zhb (a) (b) (c) (d) (ps) (L) (n20) (x21) (n26) (A.not (AV.toB (A.nthA L (A.nat n28)))) (A.add n28 1) (n29) (n30) (l31)):=by kernel_rfl
theorem ZH8(A:Ar)(a b c d:Int)(ps L:List AV)(n20:Int)(x21:List AV)(n26:Int)(b27:Bool)(n28 n29 n30:Int)(l31:List Int):Zad A tab BW0 44 [true,false,false,false,false,false,false,false,false] (Zfb a b c d ps L n20 x21 n26 b27 n28 n29 n30 l31) (ZdE a b c d ps L n20 x21 n26 b27 n28 n29 n30 l31)=
 some (tr [1,23,2,1,2,2] [A.inR .i64 (A.add n28 1),!b27,A.le n28 (A.quo (A.sub n26 1) a),Zab (A.not (A.eq a 0)) (A.inR .i64 (A.quo (A.sub n26 1) a)),A.inR .i64 (A.sub n26 1)],
  Zhb (a) (b) (c) (d) (ps) (L) (n20) (x21) (n26) (false) (A.add n28 1) (n29) (n30) (l31)):=by kernel_rfl
theorem ZIf(A:Ar)(a b c d:Int)(ps L:List AV)(n20:Int)(x21:List AV)(n26:Int)(b27:Bool)(n28 n29 n30:Int)(l31:List Int):Zad A tab BW0 40 [false,true] (Zfb a b c d ps L n20 x21 n26 b27 n28 n29 n30 l31) (ZdE a b c d ps L n20 x21 n26 b27 n28 n29 n30 l31)=
 some (tr [1,4,0,2,1,1,2,2] [A.inR .i64 (A.add n20 1),Nat.ble (A.lenA x21+A.lenA [AV.agg (Row.gen [.int .i64 n29, .int .i64 n30, .list (.ints .i64 l31)])]) 4294967296,List.all [AV.agg (Row.gen [.int .i64 n29, .int .i64 n30, .list (.ints .i64 l31)])] fun x=>AV.bx x&&Nat.beq (Zac A x) 3,b27,!A.le n28 (A.quo (A.sub n26 1) a),Zab (A.not (A.eq a 0)) (A.inR .i64 (A.quo (A.sub n26 1) a)),A.inR .i64 (A.sub n26 1)],
  ZjB (a) (b) (c) (d) (ps) (L) (A.add n20 1) (A.appA x21 [AV.agg (Row.gen [.int .i64 n29, .int .i64 n30, .list (.ints .i64 l31)])]) (n26)):=by kernel_rfl
theorem ZK6(A:Ar)(a b c d:Int)(ps L:List AV)(n20:Int)(x21:List AV)(n26:Int)(b27:Bool)(n28 n29 n30:Int)(l31:List Int):Zad A tab BW0 34 [false,false] (Zfb a b c d ps L n20 x21 n26 b27 n28 n29 n30 l31) (ZdE a b c d ps L n20 x21 n26 b27 n28 n29 n30 l31)=
 some (tr [1,3,1,1,2,2] [A.inR .i64 (A.add n20 1),!b27,!A.le n28 (A.quo (A.sub n26 1) a),Zab (A.not (A.eq a 0)) (A.inR .i64 (A.quo (A.sub n26 1) a)),A.inR .i64 (A.sub n26 1)],
  ZjB (a) (b) (c) (d) (ps) (L) (A.add n20 1) (x21) (n26)):=by kernel_rfl
theorem ZJg(A:Ar)(a b c d:Int)(ps L x3:List AV)(n23:Int)(x24:List AV)(n32:Int)(b33:Bool)(n34 n35 n36:Int)(l37:List Int):Zad A tab BW0 44 [true,true,true,true,true,true,true,true,true,true,true,true,true,true,true,true] (Ze3 a b c d ps L x3 n23 x24 n32 b33 n34 n35 n36 l37) (ZdD a b c d ps L x3 n23 x24 n32 b33 n34 n35 n36 l37)=
 some (tr [1,18,11,2,1,2,2] [A.inR .i64 (A.add n34 1),A.le (A.int (A.lenA L)) n34,b33,A.le n34 (A.quo (A.sub n32 1) a),Zab (A.not (A.eq a 0)) (A.inR .i64 (A.quo (A.sub n32 1) a)),A.inR .i64 (A.sub n32 1)],
  Zhg (a) (b) (c) (d) (ps) (L) (x3) (n23) (x24) (n32) (true) (A.add n34 1) (n35) (n36) (l37)):=by kernel_rfl
theorem ZIP(A:Ar)(a b c d:Int)(ps L x3:List AV)(n23:Int)(x24:List AV)(n32:Int)(b33:Bool)(n34 n35 n36:Int)(l37:List Int):Zad A tab BW0 44 [true,true,true,true,true,true,true,false,false,false,false,false,false,true,false,true] (Ze3 a b c d ps L x3 n23 x24 n32 b33 n34 n35 n36 l37) (ZdD a b c d ps L x3 n23 x24 n32 b33 n34 n35 n36 l37)=
 some (tr [1,11,6,11,2,1,2,2] [A.inR .i64 (A.add n34 1),Zab (Zab (A.le 0 n34) (Nat.blt (A.nat n34) (A.lenA L))) true,!A.le (A.int (A.lenA L)) n34,b33,A.le n34 (A.quo (A.sub n32 1) a),Zab (A.not (A.eq a 0)) (A.inR .i64 (A.quo (A.sub n32 1) a)),A.inR .i64 (A.sub n32 1)],
  Zhg (a) (b) (c) (d) (ps) (L) (x3) (n23) (x24) (n32) (A.not (AV.toB (A.nthA L (A.nat n34)))) (A.add n34 1) (n35) (n36) (l37)):=by kernel_rfl
theorem ZJF(A:Ar)(a b c d:Int)(ps L x3:List AV)(n23:Int)(x24:List AV)(n32:Int)(b33:Bool)(n34 n35 n36:Int)(l37:List Int):Zad A tab BW0 44 [true,false,false,false,false,false,false,false,false] (Ze3 a b c d ps L x3 n23 x24 n32 b33 n34 n35 n36 l37) (ZdD a b c d ps L x3 n23 x24 n32 b33 n34 n35 n36 l37)=
 some (tr [1,23,2,1,2,2] [A.inR .i64 (A.add n34 1),!b33,A.le n34 (A.quo (A.sub n32 1) a),Zab (A.not (A.eq a 0)) (A.inR .i64 (A.quo (A.sub n32 1) a)),A.inR .i64 (A.sub n32 1)],
  Zhg (a) (b) (c) (d) (ps) (L) (x3) (n23) (x24) (n32) (false) (A.add n34 1) (n35) (n36) (l37)):=by kernel_rfl
theorem ZIa(A:Ar)(a b c d:Int)(ps L x3:List AV)(n23:Int)(x24:List AV)(n32:Int)(b33:Bool)(n34 n35 n36:Int)(l37:List Int):Zad A tab BW0 40 [false,true] (Ze3 a b c d ps L x3 n23 x24 n32 b33 n34 n35 n36 l37) (ZdD a b c d ps L x3 n23 x24 n32 b33 n34 n35 n36 l37)=
 some (tr [1,4,0,2,1,1,2,2] [A.inR .i64 (A.add n23 1),Nat.ble (A.lenA x24+A.lenA [AV.agg (Row.gen [.int .i64 n35, .int .i64 n36, .list (.ints .i64 l37)])]) 4294967296,List.all [AV.agg (Row.gen [.int .i64 n35, .int .i64 n36, .list (.ints .i64 l37)])] fun x=>AV.bx x&&Nat.beq (Zac A x) 3,b33,!A.le n34 (A.quo (A.sub n32 1) a),Zab (A.not (A.eq a 0)) (A.inR .i64 (A.quo (A.sub n32 1) a)),A.inR .i64 (A.sub n32 1)],
  Zjs (a) (b) (c) (d) (ps) (L) (x3) (A.add n23 1) (A.appA x24 [AV.agg (Row.gen [.int .i64 n35, .int .i64 n36, .list (.ints .i64 l37)])]) (n32)):=by kernel_rfl
theorem ZI0(A:Ar)(a b c d:Int)(ps L x3:List AV)(n23:Int)(x24:List AV)(n32:Int)(b33:Bool)(n34 n35 n36:Int)(l37:List Int):Zad A tab BW0 34 [false,false] (Ze3 a b c d ps L x3 n23 x24 n32 b33 n34 n35 n36 l37) (ZdD a b c d ps L x3 n23 x24 n32 b33 n34 n35 n36 l37)=
 some (tr [1,3,1,1,2,2] [A.inR .i64 (A.add n23 1),!b33,!A.le n34 (A.quo (A.sub n32 1) a),Zab (A.not (A.eq a 0)) (A.inR .i64 (A.quo (A.sub n32 1) a)),A.inR .i64 (A.sub n32 1)],
  Zjs (a) (b) (c) (d) (ps) (L) (x3) (A.add n23 1) (x24) (n32)):=by kernel_rfl
end Go.Proofs.Ytjhdnpmojhkbjaa
