/- Texts cut at a byte, numbers of texts: plain. No condition. -/
import Derived.Test.YtkeoeooghhjibaaGreatDoorSk
import Derived.Lib.SplitLaws
import Derived.Lib.AtoiTie
import Derived.Lib.AtoiAllCases
import Derived.Lib.ItoaLen
import Derived.KernelRfl
namespace Go.Proofs.YtkeoeooghhjibaaGreatDoor
def Zde(c:UInt8):List UInt8→List (List UInt8)
 |[]=>[[]]
 |x::s=>if x=c then []::Zde c s else match Zde c s with |[]=>[[x]] |y::ys=>(x::y)::ys
theorem Zej(c:UInt8):∀s,Zde c s≠[]
 |[]=>by simp[Zde]
 |x::s=>by
  rw[Zde]
  split
  ·simp
  ·split<;>simp
theorem Zgq(c:UInt8):∀s:List UInt8,Lib.splitK [c] 0 (s.count c) s=Zde c s
 |[]=>rfl
 |x::s=>by
  have ih:=Zgq c s
  rw[Zde]
  by_cases h:x=c
  ·subst h
   rw[if_pos rfl,List.count_cons_self,Lib.splitK]
   have hi:Lib.index (x::s) [x]=0:=by simp[Lib.index]
   rw[hi]
   simpa using ih
  ·rw[if_neg h,List.count_cons_of_ne h,←ih]
   cases hk:s.count c with
   |zero=>rfl
   |succ k=>
    have hi:Lib.index (x::s) [c]=if Lib.index s [c]== -1 then -1 else Lib.index s [c]+1:=by
     rw[Lib.index]
     simp[Ne.symm h]
    have hge:=Lib.index_ge s [c]
    rw[Lib.splitK,Lib.splitK,hi]
    by_cases h1:Lib.index s [c]= -1
    ·simp[h1]
    ·obtain⟨i,hi⟩:∃i:Nat,Lib.index s [c]=i:=⟨(Lib.index s [c]).toNat,by omega⟩
     have h2:¬((i:Int)+1= -1):=by omega
     have h3:¬((i:Int)= -1):=by omega
     have h4:((i:Int)+1).toNat=i+1:=by omega
     simp[hi,h2,h3,h4]
theorem Zl8(s:List UInt8)(c:UInt8):ZaY s [c]=Zde c s:=by
 unfold ZaY
 rw[Lib.splitB_data,←Zgq]
 congr 1
 have:Lib.countB ⟨s.toArray⟩ ⟨[c].toArray⟩=Lib.count s [c]:=by first |rfl |simp[Lib.countB]
 rw[this,Lib.count_one]
theorem ZhM(s:List UInt8)(c:UInt8):∀(m i f:Nat),i+m=s.length→f≤i→(Zj0 s (c.toNat:Int) m i f).map AV.toS=match Zde c (s.drop i)with |[]=>[] |y::ys=>((s.drop f).take (i-f)++y)::ys
 |0,i,f,hi,hf=>by
  obtain rfl:i=s.length:=by omega
  rw[List.drop_length]
  simp[Zj0,Zde,AV.toS]
  rw[List.take_of_length_le (by simp)]
 |m+1,i,f,hi,hf=>by
  have hlt:i<s.length:=by omega
  rw[List.drop_eq_getElem_cons hlt,Zde,Zj0]
  have hg:s.getD i 0=s[i]:=by rw[List.getD_eq_getElem?_getD,List.getElem?_eq_getElem hlt];rfl
  have hcc:((s.getD i 0).toNat:Int)=(c.toNat:Int)↔s[i]=c:=by
   rw[hg]
   constructor
   ·intro h;exact UInt8.toNat_inj.1 (by omega)
   ·intro h;rw[h]
  by_cases h:s[i]=c
  ·have ih:=ZhM s c m (i+1) (i+1) (by omega) (Nat.le_refl _)
   rw[if_pos (hcc.2 h),if_pos h,List.map_cons,ih]
   have:(match Zde c (s.drop (i+1))with |[]=>[] |y::ys=>((s.drop (i+1)).take (i+1-(i+1))++y)::ys)=Zde c (s.drop (i+1)):=by
    cases hq:Zde c (s.drop (i+1))with
    |nil=>exact absurd hq (Zej _ _)
    |cons y ys=>simp
   rw[this]
   simp[AV.toS]
  ·have ih:=ZhM s c m (i+1) f (by omega) (by omega)
   rw[if_neg (fun q=>h (hcc.1 q)),if_neg h,ih]
   have ht:(s.drop f).take (i+1-f)=(s.drop f).take (i-f)++[s[i]]:=by
    rw[show i+1-f=(i-f)+1 by omega,List.take_add_one,List.getElem?_drop,show f+(i-f)=i by omega,List.getElem?_eq_getElem hlt];rfl
   cases hq:Zde c (s.drop (i+1))with
   |nil=>exact absurd hq (Zej _ _)
   |cons y ys=>simp[ht]
theorem Zfl(s:List UInt8)(c:UInt8):(Zcp s (c.toNat:Int)).map AV.toS=Zde c s:=by
 unfold Zcp
 rw[ZhM s c s.length 0 0 (by omega) (Nat.le_refl _)]
 cases hq:Zde c (s.drop 0)with
 |nil=>exact absurd hq (Zej _ _)
 |cons y ys=>simpa using hq.symm
theorem ZcY(c:UInt8):∀(x s:List UInt8),c∉x→Zde c (x++c::s)=x::Zde c s
 |[],s,_=>by rw[List.nil_append,Zde,if_pos rfl]
 |y::x,s,h=>by
  have ih:=ZcY c x s (fun q=>h (List.mem_cons_of_mem _ q))
  rw[List.cons_append,Zde,if_neg (fun e=>h (by rw[e];exact List.mem_cons_self)),ih]
theorem Zhz(c:UInt8):∀(x:List UInt8),c∉x→Zde c x=[x]
 |[],_=>rfl
 |y::x,h=>by
  have ih:=Zhz c x (fun q=>h (List.mem_cons_of_mem _ q))
  rw[Zde,if_neg (fun e=>h (by rw[e];exact List.mem_cons_self)),ih]
theorem Zfn(s:List UInt8):∀(m i n:Nat),i+m=s.length→Zn5 s m i (n:Int)=(Lib.decFrom n (s.drop i)).map fun q:Nat=>(q:Int)
 |0,i,n,hi=>by rw[List.drop_of_length_le (by omega)];rfl
 |m+1,i,n,hi=>by
  have hlt:i<s.length:=by omega
  have hg:s.getD i 0=s[i]:=by rw[List.getD_eq_getElem?_getD,List.getElem?_eq_getElem hlt];rfl
  rw[List.drop_eq_getElem_cons hlt,Zn5,Lib.decFrom,hg]
  unfold Lib.digitVal
  by_cases h:48≤s[i].toNat∧s[i].toNat≤57
  ·rw[if_neg (by omega),if_pos h]
   have ih:=Zfn s m (i+1) (n*10+(s[i].toNat-48)) (by omega)
   rw[←ih]
   congr 1
   omega
  ·rw[if_pos (by omega),if_neg h];rfl
theorem ZcA:∀(t:List UInt8) (acc:Nat) (c:UInt8),Lib.decFrom acc (t++[c])=(Lib.decFrom acc t).bind fun n=>(Lib.digitVal c).map fun d=>n*10+d
 |[],acc,c=>by
  rw[List.nil_append]
  simp only[Lib.decFrom,Option.bind_some]
  cases Lib.digitVal c<;>rfl
 |b::t,acc,c=>by
  rw[List.cons_append,Lib.decFrom,Lib.decFrom]
  cases Lib.digitVal b with
  |none=>rfl
  |some d=>exact ZcA t _ c
theorem Zdd(c:Nat)(h:c<10):(UInt8.ofNat (48+c)).toNat=48+c:=by
 simp[UInt8.toNat_ofNat'];omega
theorem Zhb:∀u:Nat,Lib.decFrom 0 (Lib.decDigits u)=some u:=by
 intro u
 induction u using Nat.strongRecOn with
 |ind u ih=>
  rw[Lib.decDigits]
  by_cases h:u<10
  ·rw[dif_pos h]
   simp only[Lib.decFrom,Lib.digitVal,Zdd u h]
   rw[if_pos (by omega)]
   simp
  ·rw[dif_neg h,ZcA,ih (u/10) (by omega)]
   simp only[Option.bind_some,Lib.digitVal,Zdd (u%10) (by omega)]
   rw[if_pos (by omega)]
   simp;omega
theorem Zev:∀u:Nat,∀c∈Lib.decDigits u,48≤c.toNat∧c.toNat≤57:=by
 intro u
 induction u using Nat.strongRecOn with
 |ind u ih=>
  intro c hc
  rw[Lib.decDigits]at hc
  by_cases h:u<10
  ·rw[dif_pos h]at hc
   simp only[List.mem_singleton]at hc
   subst hc
   rw[Zdd u h];omega
  ·rw[dif_neg h]at hc
   rcases List.mem_append.1 hc with hc |hc
   ·exact ih (u/10) (by omega) c hc
   ·simp only[List.mem_singleton]at hc
    subst hc
    rw[Zdd _ (by omega)];omega
theorem ZfB(u:Nat):Lib.decDigits u≠[]:=by
 rw[Lib.decDigits]
 split<;>simp
theorem Zju:∀u:Nat,10≤u→∀c,(Lib.decDigits u).head? =some c→c.toNat≠48:=by
 intro u
 induction u using Nat.strongRecOn with
 |ind u ih=>
  intro h10 c hc
  rw[Lib.decDigits,dif_neg (by omega)]at hc
  have hne:=ZfB (u/10)
  obtain⟨y,ys,hy⟩:=List.exists_cons_of_ne_nil hne
  rw[hy,List.cons_append,List.head?_cons]at hc
  cases hc
  by_cases h2:10≤u/10
  ·exact ih (u/10) (by omega) h2 c (by rw[hy];rfl)
  ·rw[Lib.decDigits,dif_pos (by omega)]at hy
   cases hy
   rw[Zdd _ (by omega)];omega
theorem ZnV:∀(k:Nat) (s:List UInt8) (n:Nat),s.length=k→s≠[]→Lib.decFrom 0 s=some n→(∀c,s.head? =some c→c.toNat=48→s.length=1)→Lib.decDigits n=s:=by
 intro k
 induction k with
 |zero=>intro s n h1 h2;exact absurd (List.eq_nil_of_length_eq_zero h1) h2
 |succ k ih=>
  intro s n h1 h2 h3 h4
  obtain⟨t,c,rfl⟩:∃t c,s=t++[c]:=⟨s.dropLast,s.getLast h2,(List.dropLast_concat_getLast h2).symm⟩
  rw[ZcA]at h3
  cases ht:Lib.decFrom 0 t with
  |none=>rw[ht]at h3;cases h3
  |some q=>
   rw[ht,Option.bind_some]at h3
   unfold Lib.digitVal at h3
   by_cases hd:48≤c.toNat∧c.toNat≤57
   ·rw[if_pos hd]at h3
    simp only[Option.map_some,Option.some.injEq]at h3
    have hc:UInt8.ofNat (48+(c.toNat-48))=c:=by
     rw[show 48+(c.toNat-48)=c.toNat by omega];simp
    by_cases hn:t=[]
    ·subst hn
     simp only[Lib.decFrom,Option.some.injEq]at ht
     subst ht
     rw[Lib.decDigits,dif_pos (by omega),←h3,show 0*10+(c.toNat-48)=c.toNat-48 by omega,hc];rfl
    ·obtain⟨y,ys,rfl⟩:=List.exists_cons_of_ne_nil hn
     have hy:y.toNat≠48:=fun e=>by
      have:=h4 y rfl e
      simp at this
     have hq:=ih (y::ys) q (by simpa using h1) hn ht (fun c' hc' e=>by simp only[List.head?_cons,Option.some.injEq]at hc';subst hc';exact absurd e hy)
     have hq0:q≠0:=fun e=>by
      subst e
      rw[Lib.decDigits,dif_pos (by omega)]at hq
      cases hq
      exact hy (Zdd 0 (by omega))
     rw[Lib.decDigits,dif_neg (by omega),show n/10=q by omega,hq,show n%10=c.toNat-48 by omega,hc]
   ·rw[if_neg hd]at h3;cases h3
end Go.Proofs.YtkeoeooghhjibaaGreatDoor
/- A number's text, as the program and the reference read it. No condition. -/
namespace Go.Proofs.YtkeoeooghhjibaaGreatDoor
theorem Zfu(u:Nat)(h:(Lib.decDigits u).length≤18):Lib.atoiAll (Lib.decDigits u)=.ok (u:Int):=by
 rw[Lib.atoiAll_short _ h]
 obtain⟨c,r,hcr⟩:=List.exists_cons_of_ne_nil (ZfB u)
 have hm:=Zev u c (by rw[hcr];exact List.mem_cons_self)
 have h1:¬c=45:=fun e=>by rw[e]at hm;exact absurd hm.1 (by decide)
 have h2:¬c=43:=fun e=>by rw[e]at hm;exact absurd hm.1 (by decide)
 have hd:=Zhb u
 rw[hcr]at hd⊢
 simp[Lib.atoi,h1,h2,Lib.decNat,hd,Lib.NumEnd.ofOption]
theorem ZhP(u:Nat):Lib.itoa (u:Int)=Lib.decDigits u:=by
 unfold Lib.itoa;rw[if_neg (by omega)];rfl
theorem Zfi(s:List UInt8)(d:Int)(hd:d≤18):Zch s d=true↔∃u:Nat,Lib.decDigits u=s∧(s.length:Int)≤d:=by
 constructor
 ·intro h
  unfold Zch at h
  split at h
  ·rename_i v hv
   simp only[Bool.and_eq_true,decide_eq_true_eq]at h
   refine⟨v.toNat,?_,h.2.2⟩
   have e:=ZhP v.toNat
   rw[show ((v.toNat:Nat):Int)=v by omega]at e
   rw[←e];exact h.2.1
  ·cases h
 ·rintro⟨u,rfl,hl⟩
  unfold Zch
  rw[Zfu u (by omega)]
  simp only[Bool.and_eq_true,decide_eq_true_eq]
  exact⟨by omega,ZhP u,hl⟩
theorem Zgt(u:Nat)(h:(Lib.decDigits u).length≤18):ZbK (Lib.decDigits u)=u:=by
 unfold ZbK;rw[Zfu u h]
theorem ZgA{s:List UInt8}{c:UInt8}{k:Nat}(h:(s.drop k).head? =some c):s.getD k 0=c∧k<s.length:=by
 rw[List.head?_drop]at h
 obtain⟨h1,h2⟩:=List.getElem?_eq_some_iff.1 h
 exact⟨by rw[List.getD_eq_getElem?_getD,h];rfl,h1⟩
theorem Zgm(u:Nat)(d:Int)(h:((Lib.decDigits u).length:Int)≤d):Zea (Lib.decDigits u) d=some (u:Int):=by
 obtain⟨c,r,hcr⟩:=List.exists_cons_of_ne_nil (ZfB u)
 have hm:=Zev u c (by rw[hcr];exact List.mem_cons_self)
 have hg:(Lib.decDigits u).getD 0 0=c:=by rw[hcr];rfl
 have hlen:0<(Lib.decDigits u).length:=by rw[hcr];simp
 have ha:ZcP (Lib.decDigits u)=0:=by
  unfold ZcP;rw[hg,if_neg];intro q;omega
 have h1:c.toNat=48→¬1<(Lib.decDigits u).length:=fun e hl=>by
  by_cases h10:10≤u
  ·exact Zju u h10 c (by rw[hcr];rfl) e
  ·rw[Lib.decDigits,dif_pos (by omega)]at hl
   simp at hl
 have hG:Zkh (Lib.decDigits u) d=true:=by
  unfold Zkh
  rw[ha,hg]
  exact decide_eq_true ⟨by omega,by omega,fun q=>h1 q.1 q.2⟩
 unfold Zea
 rw[if_pos hG,ha]
 have hn:=Zfn (Lib.decDigits u) (Lib.decDigits u).length 0 0 (by omega)
 rw[List.drop_zero,Zhb]at hn
 rw[Nat.sub_zero]
 rw[show (0:Int)=((0:Nat):Int)from rfl,hn]
 simp
theorem Zpd(s:List UInt8)(d v:Int)(h:Zea s d=some v)(hv:0≤v):∃u:Nat,Lib.decDigits u=s∧(s.length:Int)≤d:=by
 unfold Zea at h
 by_cases hG:Zkh s d=true
 ·rw[if_pos hG]at h
  simp only[Zkh,decide_eq_true_eq]at hG
  obtain⟨g1,g2,g3⟩:=hG
  by_cases ha:ZcP s=1
  ·rw[ha]at h g1 g2 g3
   have hpos:0<s.length:=by
    unfold ZcP at ha
    split at ha
    ·rename_i q;exact q.1
    ·cases ha
   have hn:=Zfn s (s.length-1) 1 0 (by omega)
   rw[show ((0:Nat):Int)=0 from rfl]at hn
   rw[hn]at h
   cases hq:Lib.decFrom 0 (s.drop 1)with
   |none=>rw[hq]at h;cases h
   |some q=>
    rw[hq]at h
    simp only[Option.map_some,if_pos,Option.some.injEq]at h
    have hq0:q=0:=by omega
    subst hq0
    have hne:s.drop 1≠[]:=fun e=>by
     have:=congrArg List.length e
     simp at this;omega
    have e:=ZnV _ (s.drop 1) 0 rfl hne hq (fun c hc e48=>by
     obtain⟨q1,q2⟩:=ZgA hc
     exact absurd ⟨by rw[q1];exact e48,q2⟩ g3)
    rw[Lib.decDigits,dif_pos (by decide)]at e
    obtain⟨q1,q2⟩:=ZgA (k:=1) (s:=s) (c:=UInt8.ofNat (48+0)) (by rw[←e];rfl)
    exact absurd ⟨by rw[q1];rfl,q2⟩ g3
  ·have ha:ZcP s=0:=by
    unfold ZcP at ha⊢
    split at ha
    ·exact absurd rfl ha
    ·rename_i q;rw[if_neg q]
   rw[ha]at h g1 g2 g3
   rw[Nat.sub_zero]at h
   have hn:=Zfn s s.length 0 0 (by omega)
   rw[show ((0:Nat):Int)=0 from rfl,List.drop_zero]at hn
   rw[hn]at h
   cases hq:Lib.decFrom 0 s with
   |none=>rw[hq]at h;cases h
   |some q=>
    have hne:s≠[]:=fun e=>g1 (by rw[e];rfl)
    refine⟨q,ZnV _ s q rfl hne hq (fun c hc e48=>?_),by omega⟩
    obtain⟨q1,q2⟩:=ZgA (k:=0) (by rw[List.drop_zero];exact hc)
    have:¬1<s.length:=fun hl=>g3 ⟨by rw[q1];exact e48,hl⟩
    omega
 ·rw[if_neg hG]at h;cases h
theorem Zkq(s:List UInt8)(d:Int)(hd:d≤18):Zch s d=((Zea s d).isSome&&decide (0≤(Zea s d).getD 0))∧(Zch s d=true→ZbK s=(Zea s d).getD 0):=by
 by_cases h:Zch s d=true
 ·obtain⟨u,rfl,hl⟩:=(Zfi s d hd).1 h
  rw[h,Zgm u d hl]
  exact⟨by simp,fun _=>Zgt u (by omega)⟩
 ·refine⟨?_,fun q=>absurd q h⟩
  cases ho:Zea s d with
  |none=>simpa using h
  |some v=>
   by_cases hv:0≤v
   ·exact absurd ((Zfi s d hd).2 (Zpd s d v ho hv)) h
   ·simpa[hv]using h
end Go.Proofs.YtkeoeooghhjibaaGreatDoor
/- Contracts as a list. No condition. -/
namespace Go.Proofs.YtkeoeooghhjibaaGreatDoor
theorem Zcc(n:Int)(h:Zbx n=true):(Lib.itoa n).length≤21:=by
 have:=i64B_iff.1 h;exact Lib.itoa_length_le n this.1 this.2
theorem Zub(a:Int):ZaA [a]=Lib.itoa a:=by unfold ZaA;simp[Lib.join_cons,Lib.joinTail]
theorem ZnN(a b c:Int):ZaA [a,b,c]=Lib.itoa a++[32]++Lib.itoa b++[32]++Lib.itoa c:=by unfold ZaA;simp[Lib.join_cons,Lib.joinTail]
theorem ZoL(a b c:Int)(ha:Zbx a=true)(hb:Zbx b=true)(hc:Zbx c=true):Zan Tryz.prog 52 [.agg (.gen [.int .i64 a, .int .i64 b, .int .i64 c])] (.str (ZaA [a,b,c])) none:=
 start (ZrA a b c) fun C hC=>tgo hC Za6 Zyj (by simp[Zuz,ZcQ,ha,hb,hc,AV.bx,Zal])
theorem Zo3(a b c:Int)(ha:Zbx a=true)(hb:Zbx b=true)(hc:Zbx c=true):Zan Tryz.prog 58 [.agg (.gen [.int .i64 a, .int .i64 b, .int .i64 c])] (.str (ZaA [a,b,c])) none:=
 start (ZrL a b c) fun C hC=>tgo hC Za6 Zx4 (by
  have la:=Zcc a ha
  have lb:=Zcc b hb
  have lc:=Zcc c hc
  rw[ZnN]
  simp[Zwo,ha,hb,hc]
  omega)
def ZbL(k:Nat):List UInt8:=AV.toS (wordsE.getD k .top)
theorem Zb8:wordsE.length=9:=by unfold wordsE;rfl
theorem Zlg:∀k,k<9→(ZbL k).length≤7:=by unfold ZbL wordsE;decide
def Zbo(k n:Int):List UInt8:=if Zae k 0 8=true then(if Zbn k=true then ZbL k.toNat++[32]++Lib.itoa n else ZbL k.toNat)else []
theorem Zpe(k n:Int)(hn:Zbx n=true):Zan Tryz.prog 59 [.agg (.gen [.int .i64 k, .int .i64 n])] (.str (Zbo k n)) none:=
 start (Zqp k n) fun C hC=>tgo hC Za6 ZxQ (by
  have ln:=Zcc n hn
  by_cases hw:Zae k 0 8=true
  ·have hk:0≤k∧k≤8:=by simpa[Zae]using hw
   have hl:=Zlg k.toNat (by omega)
   have h9:k.toNat<9:=by omega
   unfold Zbo
   rw[if_pos hw]
   by_cases hh:Zbn k=true
   ·rw[if_pos hh]
    simp[-List.getD_eq_getElem?_getD,Zpp,hw,hh,hn,Zb8,hk.1,h9,ZbL]at hl⊢
    omega
   ·rw[if_neg hh]
    simp[-List.getD_eq_getElem?_getD,Zpp,hw,hh,Zb8,hk.1,h9,ZbL]
  ·simp[Zpp,hw,Zbo])
theorem Zpg(k n:Int)(hn:Zbx n=true):Zan Tryz.prog 53 [.agg (.gen [.int .i64 k, .int .i64 n])] (.str (Zbo k n)) none:=
 start (Zrq k n) fun C hC=>tgo hC Za6 Zxb (by
  have ln:=Zcc n hn
  by_cases hw:Zae k 0 8=true
  ·have hk:0≤k∧k≤8:=by simpa[Zae]using hw
   have hc:k=0∨k=1∨k=2∨k=3∨k=4∨k=5∨k=6∨k=7∨k=8:=by omega
   have hl:(Lib.itoa n).length+8≤4294967296:=by omega
   rcases hc with rfl |rfl |rfl |rfl |rfl |rfl |rfl |rfl |rfl<;>
    (unfold Zbo;rw[if_pos hw];simp[ZsO,hw,hn,Zub,ZcQ,AV.bx,Zal,Zbn,Zae,ZbL,wordsE,AV.toS];try omega)
  ·simp[ZsO,hw,Zbo])
def k52:Ctr:=⟨52,0,fun _ a=>match a with |[.agg (.gen [.int .i64 a, .int .i64 b, .int .i64 c])]=>some (decide (Zbx a=true∧Zbx b=true∧Zbx c=true), .str (ZaA [a,b,c]),none) |_=>none⟩
theorem Zwk:k52.OK Tryz.prog:=fun pa args r fr h=>by
 simp only[k52]at h
 split at h
 ·simp only[Option.some.injEq,Prod.mk.injEq,decide_eq_true_eq]at h
  obtain⟨h0,rfl,rfl⟩:=h
  exact ZoL _ _ _ h0.1 h0.2.1 h0.2.2
 ·cases h
def k53:Ctr:=⟨53,0,fun _ a=>match a with |[.agg (.gen [.int .i64 k, .int .i64 n])]=>some (decide (Zbx n=true), .str (Zbo k n),none) |_=>none⟩
theorem Zvv:k53.OK Tryz.prog:=fun pa args r fr h=>by
 simp only[k53]at h
 split at h
 ·simp only[Option.some.injEq,Prod.mk.injEq,decide_eq_true_eq]at h
  obtain⟨h0,rfl,rfl⟩:=h
  exact Zpg _ _ h0
 ·cases h
def k58:Ctr:=⟨58,0,fun _ a=>match a with |[.agg (.gen [.int .i64 a, .int .i64 b, .int .i64 c])]=>some (decide (Zbx a=true∧Zbx b=true∧Zbx c=true), .str (ZaA [a,b,c]),none) |_=>none⟩
theorem ZtN:k58.OK Tryz.prog:=fun pa args r fr h=>by
 simp only[k58]at h
 split at h
 ·simp only[Option.some.injEq,Prod.mk.injEq,decide_eq_true_eq]at h
  obtain⟨h0,rfl,rfl⟩:=h
  exact Zo3 _ _ _ h0.1 h0.2.1 h0.2.2
 ·cases h
def k59:Ctr:=⟨59,0,fun _ a=>match a with |[.agg (.gen [.int .i64 k, .int .i64 n])]=>some (decide (Zbx n=true), .str (Zbo k n),none) |_=>none⟩
theorem ZtF:k59.OK Tryz.prog:=fun pa args r fr h=>by
 simp only[k59]at h
 split at h
 ·simp only[Option.some.injEq,Prod.mk.injEq,decide_eq_true_eq]at h
  obtain⟨h0,rfl,rfl⟩:=h
  exact Zpe _ _ h0
 ·cases h
def Ls3:List Ctr:=[k52,k53,k58,k59]++Ls2
theorem Zvh:Zaq Tryz.prog Ls3:=⟨Zwk,⟨Zvv,⟨ZtN,⟨ZtF,Za6⟩⟩⟩⟩
end Go.Proofs.YtkeoeooghhjibaaGreatDoor
/- Contracts as a list. No condition. -/
namespace Go.Proofs.YtkeoeooghhjibaaGreatDoor
theorem ZmT(a b:Bool):(Decidable.rec (fun h=>(fun _=>false) h) (fun h=>(fun _=>true) h) (instDecidableEqBool a b):Bool)=(a==b):=by cases a<;>cases b<;>rfl
def evR(k n:Int):Int×Int×Int:=if evE k n=0 then(k,n,0)else(0,0,evE k n)
def evO(r:Int×Int×Int):AV:=.tup [.agg (.gen [.int .i64 r.1, .int .i64 r.2.1]), .int .i64 r.2.2]
def evF(l0 l1:List UInt8)(b2:Bool):Nat→Nat→Int×Int×Int
 |0,_=>(0,0,7)
 |m+1,i=>if ZbL i=l0∧Zbn (i:Int)=b2 then(if b2=true then(if Zch l1 13=true then evR i (ZbK l1)else(0,0,7))else evR i 0)else evF l0 l1 b2 m (i+1)
def evG(w:List AV):Nat→Nat→Int×Int×Int
 |0,_=>(0,0,7)
 |m+1,i=>if ZbL i=AV.toS (w.getD 0 .top)then(if Zbn (i:Int)=true then(if w.length=2∧Zdi (AV.toS (w.getD 1 .top)) 13=true∧0≤ZaL (AV.toS (w.getD 1 .top)) 13 then evR i (ZaL (AV.toS (w.getD 1 .top)) 13)else(0,0,7))else(if w.length=1 then evR i 0 else(0,0,7)))else evG w m (i+1)
section
variable {C:Ctx}(hC:C.P=Tryz.prog)
include hC
theorem ZiU(l0 l1:List UInt8)(b2:Bool)(hl:l1.length≤1000000):∀m i:Nat,i+m=9→Ev C (Zgn l0 l1 b2 i) (Zei l0 l1 b2 i) (Zew 55 (evO (evF l0 l1 b2 m i)) none)
 |0,i,h=>tgo hC Za6 Zhf (by
  obtain rfl:i=9:=by omega
  simp[Zez,evF,evO])
 |m+1,i,h=>by
  have ih:=ZiU l0 l1 b2 hl m (i+1) (by omega)
  have hc:i=0∨i=1∨i=2∨i=3∨i=4∨i=5∨i=6∨i=7∨i=8:=by omega
  refine tgo hC Za6 Zhf ?_
  rcases hc with rfl |rfl |rfl |rfl |rfl |rfl |rfl |rfl |rfl
  all_goals
   simp only[evF]
   generalize hg:evF l0 l1 b2 m _=g at ih⊢
   simp only[Zez,ZmT]
   simp only[ZbL,wordsE,List.getD_cons_zero,List.getD_cons_succ,AV.toS]
   cases b2<;>simp[Zbn,Zae,hl]at ih⊢
   all_goals first
    |exact ih
    |(split
      ·next hw=>
       try simp only[if_pos hw]
       repeat' split
       all_goals simp_all[evO,evR]
      ·next hw=>first |exact ih |simpa only[if_neg hw]using ih)
theorem Zid(w:List AV)(h0:0<w.length)(hl:∀k,(AV.toS (w.getD k .top)).length≤1000000):∀m i:Nat,i+m=9→Ev C (ZfE w i) (Zer w i) (Zew 57 (evO (evG w m i)) none)
 |0,i,h=>tgo hC Za6 Zhk (by
  obtain rfl:i=9:=by omega
  simp[Zb1,evG,evO])
 |m+1,i,h=>by
  have ih:=Zid w h0 hl m (i+1) (by omega)
  have hl1:=hl 1
  refine tgo hC Za6 Zhk ?_
  have hi:(i:Int)<9:=by omega
  have hi2:i<9:=by omega
  have e2:((w.length:Int)=2)=(w.length=2):=propext (by omega)
  have e1:((w.length:Int)=1)=(w.length=1):=propext (by omega)
  simp only[evG]
  by_cases hw:ZbL i=AV.toS (w.getD 0 .top)
  ·rw[if_pos hw]
   unfold ZbL at hw
   by_cases hn:Zbn (i:Int)=true
   ·rw[if_pos hn]
    simp[-List.getD_eq_getElem?_getD,Zb1,hi,hi2,hn,hw,Zb8,h0,hl1,e2]
    by_cases hL:w.length=2
    ·simp only[hL,if_true,true_and]
     refine⟨by decide,?_⟩
     by_cases h1:Zdi (AV.toS (w.getD 1 .top)) 13=true
     ·simp only[h1,if_true,true_and]
      by_cases h2:ZaL (AV.toS (w.getD 1 .top)) 13<0
      ·simp only[h2,if_true,show ¬0≤ZaL (AV.toS (w.getD 1 .top)) 13 by omega,if_false,evO]
      ·simp only[h2,if_false,show 0≤ZaL (AV.toS (w.getD 1 .top)) 13 by omega,if_true,evO,evR]
       split<;>rfl
     ·simp[-List.getD_eq_getElem?_getD,h1,evO]
    ·simp only[hL,if_false,false_and,evO]
   ·rw[if_neg hn]
    simp[-List.getD_eq_getElem?_getD,Zb1,hi,hi2,hn,hw,Zb8,h0,e1]
    by_cases hL:w.length=1
    ·simp only[hL,if_true,evO,evR]
     split<;>rfl
    ·simp only[hL,if_false,evO]
  ·rw[if_neg hw]
   unfold ZbL at hw
   simp[-List.getD_eq_getElem?_getD,Zb1,hi,hi2,hw,Zb8,h0]
   exact⟨by omega,by simpa using ih⟩
end
def Zng(s:List UInt8):Int×Int×Int:=evF (Lib.cut s [32]).1 (Lib.cut s [32]).2.1 (Lib.cut s [32]).2.2 9 0
def Zui(s:List UInt8):Int×Int×Int:=evG (Zcp s 32) 9 0
theorem ZhA(s:List UInt8)(c:Int):∀m i f:Nat,∀x∈Zj0 s c m i f,(AV.toS x).length≤s.length
 |0,i,f,x,h=>by
  simp only[Zj0,List.mem_singleton]at h
  subst h
  simp[AV.toS]
 |m+1,i,f,x,h=>by
  rw[Zj0]at h
  split at h
  ·rcases List.mem_cons.1 h with rfl |h
   ·simp[AV.toS];omega
   ·exact ZhA s c m _ _ x h
  ·exact ZhA s c m _ _ x h
theorem ZhR(s:List UInt8)(c:Int)(k:Nat):(AV.toS ((Zcp s c).getD k .top)).length≤s.length:=by
 by_cases hk:k<(Zcp s c).length
 ·have hm:=ZhD (d:=AV.top) hk
  unfold Zcp at hm⊢
  exact ZhA s c _ _ _ _ hm
 ·rw[List.getD_eq_getElem?_getD,List.getElem?_eq_none (by omega)];simp[AV.toS]
theorem Zpi(s:List UInt8)(c:UInt8):0<(Zcp s (c.toNat:Int)).length:=by
 have h:=Zfl s c
 have:=congrArg List.length h
 rw[List.length_map]at this
 rw[this]
 exact List.length_pos_iff.2 (Zej _ _)
theorem Zk2(s:List UInt8)(hl:s.length≤1000000):Zan Tryz.prog 55 [.str s] (evO (Zng s)) none:=
 start (Zr7 s) fun C hC=>tgo hC Za6 Zx1 (by
  have h1:(Lib.cut s [32]).2.1.length≤1000000:=by
   have:(Lib.cut s [32]).2.1.length≤s.length:=by unfold Lib.cut;split<;>simp
   omega
  have ih:=ZiU hC (Lib.cut s [32]).1 (Lib.cut s [32]).2.1 (Lib.cut s [32]).2.2 h1 9 0 rfl
  simp only[Zvj]
  simpa[hl,Zng]using ih)
theorem Zla(s:List UInt8)(hl:s.length≤1000000):Zan Tryz.prog 57 [.str s] (evO (Zui s)) none:=
 start (Zq7 s) fun C hC=>tgo hC Za6 ZxG (by
  have ih:=Zid hC (Zcp s 32) (Zpi s 32) (fun k=>by have:=ZhR s 32 k;omega) 9 0 rfl
  simp only[ZvZ]
  simpa[hl,Zui]using ih)
def ZoO(w:List AV)(k:Nat):List Int:=(List.range k).map fun j=>ZaL (AV.toS (w.getD j .top)) 13
def Zct(w:List AV)(j:Nat):Bool:=Zdi (AV.toS (w.getD j .top)) 13&&decide (0≤ZaL (AV.toS (w.getD j .top)) 13)
def Zfg(w:List AV):Bool:=decide (w.length=3)&&(Zct w 0&&(Zct w 1&&Zct w 2))
def ZnA(w:List AV):AV:=match Zfg w with
 |true=>.agg (.gen [.int .i64 (ZaL (AV.toS (w.getD 0 .top)) 13), .int .i64 (ZaL (AV.toS (w.getD 1 .top)) 13), .int .i64 (ZaL (AV.toS (w.getD 2 .top)) 13)])
 |false=>.agg (.gen [.int .i64 0, .int .i64 0, .int .i64 0])
def ZpQ(w:List AV):AV:=.tup [ZnA w, .bool (Zfg w)]
theorem ZfZ{w:List AV}(h:Zfg w=false):ZpQ w=.tup [.agg (.gen [.int .i64 0, .int .i64 0, .int .i64 0]), .bool false]:=by unfold ZpQ ZnA;rw[h]
theorem Zgb{w:List AV}{k:Nat}(hk:k<3)(h:¬Zct w k=true):Zfg w=false:=by
 have:k=0∨k=1∨k=2:=by omega
 unfold Zfg
 rcases this with rfl |rfl |rfl<;>simp[h]
theorem ZnW(w:List AV)(k:Nat):ZoO w k++[ZaL (AV.toS (w.getD k .top)) 13]=ZoO w (k+1):=by
 unfold ZoO;rw[List.range_succ,List.map_append];rfl
theorem Zob(w:List AV)(k:Nat):(ZoO w k).length=k:=by unfold ZoO;simp
section
variable {C:Ctx}(hC:C.P=Tryz.prog)
include hC
theorem Zhg(w:List AV)(h3:w.length=3)(hl:∀k,(AV.toS (w.getD k .top)).length≤1000000):∀m k:Nat,k+m=3→(∀j,j<k→Zct w j=true)→Ev C (Zgf w k (ZoO w k)) (ZeG w k (ZoO w k)) (Zew 56 (ZpQ w) none)
 |0,k,hk,hj=>tgo hC Za6 Zhn (by
  obtain rfl:k=3:=by omega
  have hG:Zfg w=true:=by
   unfold Zfg;simp[h3,hj 0 (by decide),hj 1 (by decide),hj 2 (by decide)]
  have e:ZoO w 3=[ZaL (AV.toS (w.getD 0 .top)) 13,ZaL (AV.toS (w.getD 1 .top)) 13,ZaL (AV.toS (w.getD 2 .top)) 13]:=rfl
  unfold ZpQ ZnA
  rw[hG,e]
  simp[-List.getD_eq_getElem?_getD,Zb6]
  exact⟨rfl,rfl,rfl⟩)
 |m+1,k,hk,hj=>by
  have hk3:k<3:=by omega
  have hki:(k:Int)<3:=by omega
  have hlk:=hl k
  refine tgo hC Za6 Zhn ?_
  by_cases h1:Zdi (AV.toS (w.getD k .top)) 13=true
  ·by_cases h2:ZaL (AV.toS (w.getD k .top)) 13<0
   ·rw[ZfZ (Zgb hk3 (by simp[-List.getD_eq_getElem?_getD,Zct,h1];omega))]
    simp[-List.getD_eq_getElem?_getD,Zb6,hki,hk3,h3,h1,h2,hlk]
   ·have hok:Zct w k=true:=by simp[-List.getD_eq_getElem?_getD,Zct,h1];omega
    have ih:=Zhg w h3 hl m (k+1) (by omega) (fun j hj'=>by
     by_cases e:j=k
     ·rw[e];exact hok
     ·exact hj j (by omega))
    rw[←ZnW]at ih
    simp[-List.getD_eq_getElem?_getD,Zb6,hki,hk3,h3,h1,h2,hlk,Zob,AV.bx,Zal]
    exact⟨by omega,by simpa[-List.getD_eq_getElem?_getD]using ih⟩
  ·rw[ZfZ (Zgb hk3 (by simp[-List.getD_eq_getElem?_getD,Zct,h1]))]
   simp[-List.getD_eq_getElem?_getD,Zb6,hki,hk3,h3,h1,hlk]
theorem ZmL(w:List AV)(h3:w.length=3)(hl:∀k,(AV.toS (w.getD k .top)).length≤1000000):Ev C (ZfM w) (Zeo w) (Zew 56 (ZpQ w) none):=by
 have hlk:=hl 0
 refine tgo hC Za6 Zly ?_
 by_cases h1:Zdi (AV.toS (w.getD 0 .top)) 13=true
 ·by_cases h2:ZaL (AV.toS (w.getD 0 .top)) 13<0
  ·rw[ZfZ (Zgb (k:=0) (by decide) (by simp[-List.getD_eq_getElem?_getD,Zct,h1];omega))]
   simp[-List.getD_eq_getElem?_getD,Zc4,h3,h1,h2,hlk]
  ·have hok:Zct w 0=true:=by simp[-List.getD_eq_getElem?_getD,Zct,h1];omega
   have ih:=Zhg hC w h3 hl 2 1 rfl (fun j hj'=>by
    obtain rfl:j=0:=by omega
    exact hok)
   have e:ZoO w 1=[ZaL (AV.toS (w.getD 0 .top)) 13]:=rfl
   rw[e]at ih
   simp[-List.getD_eq_getElem?_getD,Zc4,h3,h1,h2,hlk,AV.bx,Zal]
   simpa[-List.getD_eq_getElem?_getD]using ih
 ·rw[ZfZ (Zgb (k:=0) (by decide) (by simp[-List.getD_eq_getElem?_getD,Zct,h1]))]
  simp[-List.getD_eq_getElem?_getD,Zc4,h3,h1,hlk]
end
theorem Zk3(s:List UInt8)(hl:s.length≤1000000):Zan Tryz.prog 56 [.str s] (ZpQ (Zcp s 32)) none:=
 start (ZqZ s) fun C hC=>tgo hC Za6 Zw8 (by
  by_cases h3:(Zcp s 32).length=3
  ·have ih:=ZmL hC (Zcp s 32) h3 (fun k=>by have:=ZhR s 32 k;omega)
   simp[ZqO,hl,h3]
   exact ih
  ·rw[ZfZ (by unfold Zfg;simp[h3])]
   have:¬((Zcp s 32).length:Int)=3:=by omega
   simp[ZqO,hl,this])
def k55:Ctr:=⟨55,0,fun _ a=>match a with |[.str s]=>some (decide (s.length≤1000000),evO (Zng s),none) |_=>none⟩
theorem Zv9:k55.OK Tryz.prog:=fun pa args r fr h=>by
 simp only[k55]at h
 split at h
 ·simp only[Option.some.injEq,Prod.mk.injEq,decide_eq_true_eq]at h
  obtain⟨h0,rfl,rfl⟩:=h
  exact Zk2 _ h0
 ·cases h
def k56:Ctr:=⟨56,0,fun _ a=>match a with |[.str s]=>some (decide (s.length≤1000000),ZpQ (Zcp s 32),none) |_=>none⟩
theorem Ztn:k56.OK Tryz.prog:=fun pa args r fr h=>by
 simp only[k56]at h
 split at h
 ·simp only[Option.some.injEq,Prod.mk.injEq,decide_eq_true_eq]at h
  obtain⟨h0,rfl,rfl⟩:=h
  exact Zk3 _ h0
 ·cases h
def k57:Ctr:=⟨57,0,fun _ a=>match a with |[.str s]=>some (decide (s.length≤1000000),evO (Zui s),none) |_=>none⟩
theorem Zv1:k57.OK Tryz.prog:=fun pa args r fr h=>by
 simp only[k57]at h
 split at h
 ·simp only[Option.some.injEq,Prod.mk.injEq,decide_eq_true_eq]at h
  obtain⟨h0,rfl,rfl⟩:=h
  exact Zla _ h0
 ·cases h
def Ls4:List Ctr:=[k55,k56,k57]++Ls3
theorem Zt4:Zaq Tryz.prog Ls4:=⟨Zv9,⟨Ztn,⟨Zv1,Zvh⟩⟩⟩
end Go.Proofs.YtkeoeooghhjibaaGreatDoor
/- Paths of functions, printed by the explorer (Gx). No condition. -/
namespace Go.Proofs.YtkeoeooghhjibaaGreatDoor
set_option maxRecDepth 100000
set_option linter.unusedVariables false
def Zvs(s:List UInt8):AFrame:={ fn:=54,N:=44,env:=[(0,AV.str s)],todo:=[.code a54.code],defs:=[],rnd:=none,ret:=false,res:=[ARes.cell 2 true 3,ARes.tmp 3] }
def ZAF(s:List UInt8):List AFrame:=[(Zvs s)]
theorem ZrB(s:List UInt8):Zaz tab 54 [AV.str s]=some (Zvs s):=rfl
def ZfA(x0:List AV)(n1 n2 n3 n4:Int):List AFrame:=[{ fn:=54,N:=44,env:=[(2,AV.ptr 54003 0 0 0),(4,AV.ptr 54005 0 0 0),(6,AV.list (Row.big .str x0)),(23,AV.agg (Row.gen [.ptr 54005 0 0 0, .ptr 54005 0 0 1, .ptr 54005 0 0 2])),(24,AV.int .i64 n1)],todo:=.code (ACode.gh [] ZvP)::ZwI,defs:=[],rnd:=none,ret:=false,res:=[ARes.cell 2 true 3,ARes.tmp 3] }]
def ZeA(x0:List AV)(n1 n2 n3 n4:Int):Zaa:=[(54003,{ base:=0,blks:=[Blk.row 82 3 (Row.gen [AV.agg (Row.gen [AV.int .i64 0,AV.int .i64 0,AV.int .i64 0])])] }),(54005,{ base:=0,blks:=[Blk.row 82 3 (Row.gen [AV.agg (Row.gen [AV.int .i64 n2,AV.int .i64 n3,AV.int .i64 n4])])] })]
abbrev ZcZ(x0:List AV)(n1 n2 n3 n4:Int):List AFrame×Zaa:=(ZfA x0 n1 n2 n3 n4,ZeA x0 n1 n2 n3 n4)
def Zqx(A:Ar)(K:KT)(F:FT)(s:List UInt8):Prop:=rB [decide (List.length s≤1000000∧1≤List.length [32])] (bB (A.not (A.eq (A.int (A.lenA (List.map AV.str (ZaY s [32])))) 3)) (F (AV.tup [AV.agg (Row.gen [.int .i64 0, .int .i64 0, .int .i64 0]),AV.int .i64 7]) (none)) (K (ZcZ (List.map AV.str (ZaY s [32])) (0) (0) (0) (0))))
theorem Zxk{A:Ar}{K:KT}{F:FT}{M:MT}{s:List UInt8} :ZaE A tab Ls2 54 K F M (.run 34 (.tf (.run 7 (.fn)) (.run 10 (.hd)))) (ZAF s) []=Zqx A K F s:=by kernel_rfl
def Za8(A:Ar)(K:KT)(F:FT)(x0:List AV)(n1 n2 n3 n4:Int):Prop:=bB (A.lt n1 3) (qB [A.eq n1 0] (rB [decide (List.length (AV.toS (A.nthA x0 (A.nat n1)))≤1000000),Zah (Zah (A.le 0 n1) (Nat.blt (A.nat n1) (A.lenA x0))) true] (bB (A.not (Zch (AV.toS (A.nthA x0 (A.nat n1))) 13)) (F (AV.tup [AV.agg (Row.gen [.int .i64 0, .int .i64 0, .int .i64 0]),AV.int .i64 7]) (none)) (rB [A.inR .i64 (A.add 0 1)] (K (ZcZ (x0) (A.add 0 1) (ZbK (AV.toS (A.nthA x0 (A.nat n1)))) (n3) (n4)))))) (qB [A.eq n1 (Int.ofNat 1)] (rB [decide (List.length (AV.toS (A.nthA x0 (A.nat n1)))≤1000000),Zah (Zah (A.le 0 n1) (Nat.blt (A.nat n1) (A.lenA x0))) true] (bB (A.not (Zch (AV.toS (A.nthA x0 (A.nat n1))) 13)) (F (AV.tup [AV.agg (Row.gen [.int .i64 0, .int .i64 0, .int .i64 0]),AV.int .i64 7]) (none)) (rB [A.inR .i64 (A.add 1 1)] (K (ZcZ (x0) (A.add 1 1) (n2) (ZbK (AV.toS (A.nthA x0 (A.nat n1)))) (n4)))))) (rB [A.eq n1 (Int.ofNat 2)] (rB [decide (List.length (AV.toS (A.nthA x0 (A.nat n1)))≤1000000),Zah (Zah (A.le 0 n1) (Nat.blt (A.nat n1) (A.lenA x0))) true] (bB (A.not (Zch (AV.toS (A.nthA x0 (A.nat n1))) 13)) (F (AV.tup [AV.agg (Row.gen [.int .i64 0, .int .i64 0, .int .i64 0]),AV.int .i64 7]) (none)) (rB [A.inR .i64 (A.add 2 1)] (K (ZcZ (x0) (A.add 2 1) (n2) (n3) (ZbK (AV.toS (A.nthA x0 (A.nat n1)))))))))))) (F (AV.tup [AV.agg (Row.gen [.int .i64 n2, .int .i64 n3, .int .i64 n4]),AV.int .i64 0]) (none))
theorem Zc5{A:Ar}{K:KT}{F:FT}{M:MT}{x0:List AV}{n1 n2 n3 n4:Int} :ZaE A tab Ls2 54 K F M (.run 6 (.tf (.run 6 (.alt [true] (.run 23 (.tf (.run 7 (.fn)) (.run 14 (.hd)))) (.alt [false,true] (.run 23 (.tf (.run 7 (.fn)) (.run 14 (.hd)))) (.alt [false,false,true] (.run 23 (.tf (.run 7 (.fn)) (.run 14 (.hd)))) (.no))))) (.run 8 (.fn)))) (ZfA x0 n1 n2 n3 n4) (ZeA x0 n1 n2 n3 n4)=Za8 A K F x0 n1 n2 n3 n4:=by kernel_rfl
end Go.Proofs.YtkeoeooghhjibaaGreatDoor
/- Contracts as a list. No condition. -/
namespace Go.Proofs.YtkeoeooghhjibaaGreatDoor
theorem ZdJ(x:List UInt8):Zch x 13=(Zdi x 13&&decide (0≤ZaL x 13)):=by unfold Zdi ZaL;exact(Zkq x 13 (by decide)).1
theorem Zk7{x:List UInt8}(h:Zch x 13=true):ZbK x=ZaL x 13:=by unfold ZaL;exact(Zkq x 13 (by decide)).2 h
theorem Zoy{w v:List AV}(h1:w.length=v.length)(h2:∀j,AV.toS (w.getD j .top)=AV.toS (v.getD j .top)):Zfg w=Zfg v∧ZnA w=ZnA v:=by
 have hG:Zfg w=Zfg v:=by unfold Zfg Zct;rw[h1,h2 0,h2 1,h2 2]
 refine⟨hG,?_⟩
 unfold ZnA
 rw[hG,h2 0,h2 1,h2 2]
def Zmz(w:List AV):AV:=.tup [ZnA w, .int .i64 (if Zfg w=true then 0 else 7)]
theorem Znc{w:List AV}(h:Zfg w=false):Zmz w=.tup [.agg (.gen [.int .i64 0, .int .i64 0, .int .i64 0]), .int .i64 7]:=by unfold Zmz ZnA;rw[h];rfl
section
variable {C:Ctx}(hC:C.P=Tryz.prog)
include hC
theorem Ztz(w:List AV)(h3:w.length=3)(hl:∀k,(AV.toS (w.getD k .top)).length≤1000000):Ev C (ZfA w 0 0 0 0) (ZeA w 0 0 0 0) (Zew 54 (Zmz w) none):=by
 have hl0:=hl 0
 have hl1:=hl 1
 have hl2:=hl 2
 have no:∀k,k<3→¬Zch (AV.toS (w.getD k .top)) 13=true→Zmz w=.tup [.agg (.gen [.int .i64 0, .int .i64 0, .int .i64 0]), .int .i64 7]:=fun k hk hb=>Znc (Zgb hk (by
  rw[ZdJ]at hb
  unfold Zct;exact hb))
 refine tgo hC Za6 Zc5 ?_
 by_cases b0:Zch (AV.toS (w.getD 0 .top)) 13=true
 ·have e0:=Zk7 b0
  simp[-List.getD_eq_getElem?_getD,Za8,h3,b0,e0,hl0]
  refine tgo hC Za6 Zc5 ?_
  by_cases b1:Zch (AV.toS (w.getD 1 .top)) 13=true
  ·have e1:=Zk7 b1
   simp[-List.getD_eq_getElem?_getD,Za8,h3,b1,e1,hl1]
   refine tgo hC Za6 Zc5 ?_
   by_cases b2:Zch (AV.toS (w.getD 2 .top)) 13=true
   ·have e2:=Zk7 b2
    simp[-List.getD_eq_getElem?_getD,Za8,h3,b2,e2,hl2]
    refine tgo hC Za6 Zc5 ?_
    have hG:Zfg w=true:=by
     unfold Zfg Zct
     rw[ZdJ]at b0 b1 b2
     rw[b0,b1,b2];simp[h3]
    unfold Zmz ZnA
    rw[hG]
    simp[-List.getD_eq_getElem?_getD,Za8]
   ·rw[no 2 (by decide) b2]
    simp[-List.getD_eq_getElem?_getD,Za8,h3,b2,hl2]
  ·rw[no 1 (by decide) b1]
   simp[-List.getD_eq_getElem?_getD,Za8,h3,b1,hl1]
 ·rw[no 0 (by decide) b0]
  simp[-List.getD_eq_getElem?_getD,Za8,h3,b0,hl0]
end
theorem Zqu(l:List (List UInt8))(j:Nat):AV.toS ((l.map AV.str).getD j .top)=l.getD j []:=by
 rw[List.getD_eq_getElem?_getD,List.getElem?_map,List.getD_eq_getElem?_getD]
 cases l[j]?<;>rfl
theorem Zbv(l:List AV)(j:Nat):AV.toS (l.getD j .top)=(l.map AV.toS).getD j []:=by
 rw[List.getD_eq_getElem?_getD,List.getD_eq_getElem?_getD,List.getElem?_map]
 cases l[j]?<;>rfl
theorem ZlC(s:List UInt8):((ZaY s [32]).map AV.str).length=(Zcp s 32).length∧∀j,AV.toS (((ZaY s [32]).map AV.str).getD j .top)=AV.toS ((Zcp s 32).getD j .top):=by
 have h1:=Zl8 s 32
 have h2:=Zfl s 32
 rw[show (((32:UInt8).toNat:Nat):Int)=32 from rfl]at h2
 constructor
 ·rw[List.length_map,h1,←h2,List.length_map]
 ·intro j
  rw[Zqu,Zbv,h1,h2]
theorem Zk1(s:List UInt8)(hl:s.length≤1000000):Zan Tryz.prog 54 [.str s] (Zmz (Zcp s 32)) none:=
 start (ZrB s) fun C hC=>tgo hC Za6 Zxk (by
  obtain⟨w1,w2⟩:=ZlC s
  obtain⟨g1,g2⟩:=Zoy w1 w2
  have e:Zmz (Zcp s 32)=Zmz ((ZaY s [32]).map AV.str):=by unfold Zmz;rw[g1,g2]
  rw[e]
  by_cases h3:((ZaY s [32]).map AV.str).length=3
  ·have ih:=Ztz hC _ h3 (fun k=>by rw[w2 k];have:=ZhR s 32 k;omega)
   have h3i:(((ZaY s [32]).map AV.str).length:Int)=3:=by omega
   simp only[Zqx,Zyt,Zxa]
   simp[hl]
   rw[List.length_map]at h3
   simp[h3]
   exact ih
  ·rw[Znc (by unfold Zfg;simp at h3;simp[h3])]
   rw[List.length_map]at h3
   have:¬((ZaY s [32]).length:Int)=3:=by omega
   simp[Zqx,hl,this])
def k54:Ctr:=⟨54,0,fun _ a=>match a with |[.str s]=>some (decide (s.length≤1000000),Zmz (Zcp s 32),none) |_=>none⟩
theorem Zvi:k54.OK Tryz.prog:=fun pa args r fr h=>by
 simp only[k54]at h
 split at h
 ·simp only[Option.some.injEq,Prod.mk.injEq,decide_eq_true_eq]at h
  obtain⟨h0,rfl,rfl⟩:=h
  exact Zk1 _ h0
 ·cases h
def Ls5:List Ctr:=[k54]++Ls4
theorem ZuM:Zaq Tryz.prog Ls5:=⟨Zvi,Zt4⟩
end Go.Proofs.YtkeoeooghhjibaaGreatDoor
/- Contracts as a list. No condition. -/
namespace Go.Proofs.YtkeoeooghhjibaaGreatDoor
theorem ZfS(c:UInt8):∀s:List UInt8,(c∉s∧Lib.index s [c]= -1)∨∃x t,s=x++c::t∧c∉x∧Lib.index s [c]=x.length
 |[]=>.inl ⟨by simp,by simp[Lib.index]⟩
 |x::s=>by
  by_cases h:x=c
  ·subst h
   exact .inr ⟨[],s,rfl,by simp,by simp[Lib.index]⟩
  ·have hi:Lib.index (x::s) [c]=if Lib.index s [c]== -1 then -1 else Lib.index s [c]+1:=by
    rw[Lib.index]
    simp[Ne.symm h]
   rcases ZfS c s with⟨h1,h2⟩ |⟨y,t,h1,h2,h3⟩
   ·left
    refine⟨by simp[h1,Ne.symm h],?_⟩
    rw[hi,h2];rfl
   ·right
    refine⟨x::y,t,by rw[h1];rfl,by simp[h2,Ne.symm h],?_⟩
    rw[hi,h3,if_neg (by simp)]
    simp
theorem ZgC(s:List UInt8):(32∉s∧Lib.cut s [32]=(s,[],false)∧Zde 32 s=[s])∨∃x t,32∈s∧Lib.cut s [32]=(x,t,true)∧Zde 32 s=x::Zde 32 t:=by
 rcases ZfS 32 s with⟨h1,h2⟩ |⟨x,t,rfl,h2,h3⟩
 ·left
  refine⟨h1,?_,Zhz 32 s h1⟩
  unfold Lib.cut;rw[h2];rfl
 ·right
  refine⟨x,t,by simp,?_,ZcY 32 x t h2⟩
  unfold Lib.cut
  rw[h3,if_pos (by omega)]
  simp
theorem Zjg:∀i,i<9→∀j,j<9→ZbL i=ZbL j→i=j:=by unfold ZbL wordsE;decide
theorem Zk4(l0 l1:List UInt8)(b2:Bool):∀m i,i+m=9→(∀j,i≤j→j<9→¬ZbL j=l0)→evF l0 l1 b2 m i=(0,0,7)
 |0,_,_,_=>rfl
 |m+1,i,h,hn=>by
  rw[evF,if_neg (fun q=>hn i (Nat.le_refl _) (by omega) q.1)]
  exact Zk4 l0 l1 b2 m (i+1) (by omega) (fun j h1 h2=>hn j (by omega) h2)
def evH(W:List (List UInt8)):Nat→Nat→Int×Int×Int
 |0,_=>(0,0,7)
 |m+1,i=>if ZbL i=W.getD 0 []then(if Zbn (i:Int)=true then(if W.length=2∧Zdi (W.getD 1 []) 13=true∧0≤ZaL (W.getD 1 []) 13 then evR i (ZaL (W.getD 1 []) 13)else(0,0,7))else(if W.length=1 then evR i 0 else(0,0,7)))else evH W m (i+1)
theorem ZnR(w:List AV):∀m i,evG w m i=evH (w.map AV.toS) m i
 |0,_=>rfl
 |m+1,i=>by
  rw[evG,evH,ZnR w m (i+1),Zbv,Zbv,List.length_map]
theorem Zlc(u:Nat):(32:UInt8)∉Lib.decDigits u:=fun h=>by
 have:=Zev u 32 h
 exact absurd this.1 (by decide)
theorem ZmX(l0 l1:List UInt8)(b2:Bool)(W:List (List UInt8))(hW:(b2=false∧W=[l0])∨(b2=true∧W=l0::Zde 32 l1)):∀m i,i+m=9→evF l0 l1 b2 m i=evH W m i
 |0,_,_=>rfl
 |m+1,i,h=>by
  have ih:=ZmX l0 l1 b2 W hW m (i+1) (by omega)
  have h0:W.getD 0 []=l0:=by rcases hW with⟨_,rfl⟩ |⟨_,rfl⟩<;>rfl
  by_cases hw:ZbL i=l0
  ·have hnone:evF l0 l1 b2 m (i+1)=(0,0,7):=Zk4 l0 l1 b2 m (i+1) (by omega) (fun j h1 h2 q=>by
    have:=Zjg i (by omega) j h2 (hw.trans q.symm);omega)
   rw[evF,evH,h0,if_pos hw,hnone]
   rcases hW with⟨rfl,rfl⟩ |⟨rfl,rfl⟩
   ·by_cases hn:Zbn (i:Int)=true
    ·rw[if_neg (by rw[hn];simp),if_pos hn,if_neg (by simp)]
    ·have hn:Zbn (i:Int)=false:=by simpa using hn
     rw[if_pos ⟨hw,hn⟩,hn];rfl
   ·have hlen:0<(Zde 32 l1).length:=List.length_pos_iff.2 (Zej _ _)
    by_cases hn:Zbn (i:Int)=true
    ·rw[if_pos ⟨hw,hn⟩,if_pos rfl,if_pos hn]
     have e1:(l0::Zde 32 l1).getD 1 []=(Zde 32 l1).getD 0 []:=rfl
     rw[e1]
     rcases ZgC l1 with⟨q1,_,q3⟩ |⟨x,t,q1,_,q3⟩
     ·rw[q3]
      have e2:[l1].getD 0 []=l1:=rfl
      rw[e2]
      by_cases hb:Zch l1 13=true
      ·have e3:=Zk7 hb
       have e4:=ZdJ l1
       rw[hb]at e4
       simp only[Bool.true_eq,Bool.and_eq_true,decide_eq_true_eq]at e4
       rw[if_pos hb,if_pos ⟨rfl,e4⟩,e3]
      ·rw[if_neg hb,if_neg]
       rintro⟨_,q⟩
       rw[ZdJ]at hb
       exact hb (by simp[q.1,q.2])
     ·have hlt:0<(Zde 32 t).length:=List.length_pos_iff.2 (Zej _ _)
      have hb:¬Zch l1 13=true:=fun hb=>by
       obtain⟨u,hu,_⟩:=(Zfi l1 13 (by decide)).1 hb
       rw[←hu]at q1
       exact Zlc u q1
      rw[if_neg hb,if_neg]
      rintro⟨q,_⟩
      rw[q3]at q
      simp only[List.length_cons]at q;omega
    ·have hn':Zbn (i:Int)=false:=by simpa using hn
     rw[if_neg (by rw[hn'];simp),if_neg hn,if_neg (by simp only[List.length_cons];omega)]
  ·rw[evF,evH,h0,if_neg hw,if_neg (fun q=>hw q.1)]
   exact ih
theorem ZmQ(s:List UInt8):Zng s=Zui s:=by
 unfold Zng Zui
 rw[ZnR]
 have h2:=Zfl s 32
 rw[show (((32:UInt8).toNat:Nat):Int)=32 from rfl]at h2
 rw[h2]
 apply ZmX _ _ _ _ _ 9 0 rfl
 rcases ZgC s with⟨_,h1,h3⟩ |⟨x,t,_,h1,h3⟩
 ·left;rw[h1,h3];exact⟨rfl,rfl⟩
 ·right;rw[h1,h3];exact⟨rfl,rfl⟩
def evA(s:List UInt8):Int:=(Zng s).1
def evB(s:List UInt8):Int:=(Zng s).2.1
def evC(s:List UInt8):Int:=(Zng s).2.2
def Zdg(s:List UInt8)(j:Nat):Int:=if Zfg (Zcp s 32)=true then ZaL (AV.toS ((Zcp s 32).getD j .top)) 13 else 0
def Zn3(s:List UInt8):Bool:=Zfg (Zcp s 32)
def Zl6(s:List UInt8):Int:=if Zfg (Zcp s 32)=true then 0 else 7
theorem Zqa(s:List UInt8):ZnA (Zcp s 32)=.agg (.gen [.int .i64 (Zdg s 0), .int .i64 (Zdg s 1), .int .i64 (Zdg s 2)]):=by
 unfold ZnA Zdg
 cases h:Zfg (Zcp s 32)<;>rfl
theorem ZrG(s:List UInt8)(hl:s.length≤1000000):Zan Tryz.prog 54 [.str s] (.tup [.agg (.gen [.int .i64 (Zdg s 0), .int .i64 (Zdg s 1), .int .i64 (Zdg s 2)]), .int .i64 (Zl6 s)]) none:=by
 have h:=Zk1 s hl
 unfold Zmz at h
 rw[Zqa]at h
 exact h
theorem ZsD(s:List UInt8)(hl:s.length≤1000000):Zan Tryz.prog 56 [.str s] (.tup [.agg (.gen [.int .i64 (Zdg s 0), .int .i64 (Zdg s 1), .int .i64 (Zdg s 2)]), .bool (Zn3 s)]) none:=by
 have h:=Zk3 s hl
 unfold ZpQ at h
 rw[Zqa]at h
 exact h
theorem ZqT(s:List UInt8)(hl:s.length≤1000000):Zan Tryz.prog 55 [.str s] (.tup [.agg (.gen [.int .i64 (evA s), .int .i64 (evB s)]), .int .i64 (evC s)]) none:=Zk2 s hl
theorem Zrd(s:List UInt8)(hl:s.length≤1000000):Zan Tryz.prog 57 [.str s] (.tup [.agg (.gen [.int .i64 (evA s), .int .i64 (evB s)]), .int .i64 (evC s)]) none:=by
 have h:=Zla s hl
 rw[←ZmQ]at h
 exact h
attribute [irreducible] evA evB evC Zdg Zn3 Zl6
def k54s:Ctr:=⟨54,0,fun _ a=>match a with |[.str s]=>some (decide (s.length≤1000000), .tup [.agg (.gen [.int .i64 (Zdg s 0), .int .i64 (Zdg s 1), .int .i64 (Zdg s 2)]), .int .i64 (Zl6 s)],none) |_=>none⟩
theorem Zsi:k54s.OK Tryz.prog:=fun pa args r fr h=>by
 simp only[k54s]at h
 split at h
 ·simp only[Option.some.injEq,Prod.mk.injEq,decide_eq_true_eq]at h
  obtain⟨h0,rfl,rfl⟩:=h
  exact ZrG _ h0
 ·cases h
def k55s:Ctr:=⟨55,0,fun _ a=>match a with |[.str s]=>some (decide (s.length≤1000000), .tup [.agg (.gen [.int .i64 (evA s), .int .i64 (evB s)]), .int .i64 (evC s)],none) |_=>none⟩
theorem Zq0:k55s.OK Tryz.prog:=fun pa args r fr h=>by
 simp only[k55s]at h
 split at h
 ·simp only[Option.some.injEq,Prod.mk.injEq,decide_eq_true_eq]at h
  obtain⟨h0,rfl,rfl⟩:=h
  exact ZqT _ h0
 ·cases h
def k56s:Ctr:=⟨56,0,fun _ a=>match a with |[.str s]=>some (decide (s.length≤1000000), .tup [.agg (.gen [.int .i64 (Zdg s 0), .int .i64 (Zdg s 1), .int .i64 (Zdg s 2)]), .bool (Zn3 s)],none) |_=>none⟩
theorem Zrl:k56s.OK Tryz.prog:=fun pa args r fr h=>by
 simp only[k56s]at h
 split at h
 ·simp only[Option.some.injEq,Prod.mk.injEq,decide_eq_true_eq]at h
  obtain⟨h0,rfl,rfl⟩:=h
  exact ZsD _ h0
 ·cases h
def k57s:Ctr:=⟨57,0,fun _ a=>match a with |[.str s]=>some (decide (s.length≤1000000), .tup [.agg (.gen [.int .i64 (evA s), .int .i64 (evB s)]), .int .i64 (evC s)],none) |_=>none⟩
theorem ZqL:k57s.OK Tryz.prog:=fun pa args r fr h=>by
 simp only[k57s]at h
 split at h
 ·simp only[Option.some.injEq,Prod.mk.injEq,decide_eq_true_eq]at h
  obtain⟨h0,rfl,rfl⟩:=h
  exact Zrd _ h0
 ·cases h
def Ls6:List Ctr:=[k54s,k55s,k56s,k57s]++Ls5
theorem ZvA:Zaq Tryz.prog Ls6:=⟨Zsi,⟨Zq0,⟨Zrl,⟨ZqL,ZuM⟩⟩⟩⟩
end Go.Proofs.YtkeoeooghhjibaaGreatDoor
/- Paths of functions, printed by the explorer (Gx). No condition. -/
namespace Go.Proofs.YtkeoeooghhjibaaGreatDoor
set_option maxRecDepth 100000
set_option linter.unusedVariables false
def Zus(a b c ek en:Int)(s:List UInt8):AFrame:={ fn:=11,N:=131,env:=[(0,AV.agg (Row.gen [.int .i64 a, .int .i64 b, .int .i64 c])),(1,AV.agg (Row.gen [.int .i64 ek, .int .i64 en])),(2,AV.str s)],todo:=[.code a11.code],defs:=[],rnd:=none,ret:=false,res:=[ARes.tmp 6] }
def ZBV(a b c ek en:Int)(s:List UInt8):List AFrame:=[(Zus a b c ek en s)]
theorem Zqt(a b c ek en:Int)(s:List UInt8):Zaz tab 11 [AV.agg (Row.gen [.int .i64 a, .int .i64 b, .int .i64 c]),AV.agg (Row.gen [.int .i64 ek, .int .i64 en]),AV.str s]=some (Zus a b c ek en s):=rfl
def ZuD(A:Ar)(K:KT)(F:FT)(a b c ek en:Int)(s:List UInt8):Prop:=rB [!A.not true] (bB (A.lt 100 (A.int (A.lenS s))) (F (AV.bool true) (none)) (rB [decide (Zbx a=true∧Zbx b=true∧Zbx c=true),decide (List.length s≤1000000),decide (List.length s≤1000000),decide (List.length s≤1000000),decide (List.length s≤1000000),decide (Zbx en=true),decide (Zbx a=true∧Zbx b=true∧Zbx c=true)] (bB (A.not (A.eqS (ZaA [a,b,c]) (ZaA [a,b,c]))) (F (AV.bool false) (none)) (rB [decide (Zbx en=true)] (bB (A.not (A.eqS (Zbo ek en) (Zbo ek en))) (F (AV.bool false) (none)) (bB (A.not (Zah (A.eq (Zdg s 0) (Zdg s 0)) (Zah (A.eq (Zdg s 1) (Zdg s 1)) (A.eq (Zdg s 2) (Zdg s 2))))) (F (AV.bool false) (none)) (bB (A.not (Decidable.rec (fun h=>(fun x=>false) h) (fun h=>(fun x=>true) h) (instDecidableEqBool (Zn3 s) (A.eq (Zl6 s) 0)))) (F (AV.bool false) (none)) (bB (A.not (Zn3 s)) (bB (A.not (A.eq (Zl6 s) 7)) (F (AV.bool false) (none)) (bB (A.not (Zah (A.eq (evA s) (evA s)) (A.eq (evB s) (evB s)))) (F (AV.bool false) (none)) (bB (A.not (A.eq (evC s) (evC s))) (F (AV.bool false) (none)) (bB (Zae a 0 8) (bB (Zae b 0 1000000000000) (bB (Zae c 0 1000000000000) (rB [decide (List.length (ZaA [a,b,c])≤1000000)] (bB (A.not (A.eq (Zl6 (ZaA [a,b,c])) 0)) (F (AV.bool false) (none)) (bB (A.not (Zah (A.eq (Zdg (ZaA [a,b,c]) 0) a) (Zah (A.eq (Zdg (ZaA [a,b,c]) 1) b) (A.eq (Zdg (ZaA [a,b,c]) 2) c)))) (F (AV.bool false) (none)) (bB (A.not (A.eq (evE ek en) 0)) (F (AV.bool true) (none)) (rB [decide (List.length (Zbo ek en)≤1000000)] (bB (A.eq (evC (Zbo ek en)) 0) (F (AV.bool (Zah (A.eq (evA (Zbo ek en)) ek) (A.eq (evB (Zbo ek en)) en))) (none)) (F (AV.bool false) (none)))))))) (bB (A.not (A.eq (evE ek en) 0)) (F (AV.bool true) (none)) (rB [decide (List.length (Zbo ek en)≤1000000)] (bB (A.eq (evC (Zbo ek en)) 0) (F (AV.bool (Zah (A.eq (evA (Zbo ek en)) ek) (A.eq (evB (Zbo ek en)) en))) (none)) (F (AV.bool false) (none)))))) (bB (A.not (A.eq (evE ek en) 0)) (F (AV.bool true) (none)) (rB [decide (List.length (Zbo ek en)≤1000000)] (bB (A.eq (evC (Zbo ek en)) 0) (F (AV.bool (Zah (A.eq (evA (Zbo ek en)) ek) (A.eq (evB (Zbo ek en)) en))) (none)) (F (AV.bool false) (none)))))) (bB (A.not (A.eq (evE ek en) 0)) (F (AV.bool true) (none)) (rB [decide (List.length (Zbo ek en)≤1000000)] (bB (A.eq (evC (Zbo ek en)) 0) (F (AV.bool (Zah (A.eq (evA (Zbo ek en)) ek) (A.eq (evB (Zbo ek en)) en))) (none)) (F (AV.bool false) (none))))))))) (bB (A.not (Zah (A.eq (evA s) (evA s)) (A.eq (evB s) (evB s)))) (F (AV.bool false) (none)) (bB (A.not (A.eq (evC s) (evC s))) (F (AV.bool false) (none)) (bB (Zae a 0 8) (bB (Zae b 0 1000000000000) (bB (Zae c 0 1000000000000) (rB [decide (List.length (ZaA [a,b,c])≤1000000)] (bB (A.not (A.eq (Zl6 (ZaA [a,b,c])) 0)) (F (AV.bool false) (none)) (bB (A.not (Zah (A.eq (Zdg (ZaA [a,b,c]) 0) a) (Zah (A.eq (Zdg (ZaA [a,b,c]) 1) b) (A.eq (Zdg (ZaA [a,b,c]) 2) c)))) (F (AV.bool false) (none)) (bB (A.not (A.eq (evE ek en) 0)) (F (AV.bool true) (none)) (rB [decide (List.length (Zbo ek en)≤1000000)] (bB (A.eq (evC (Zbo ek en)) 0) (F (AV.bool (Zah (A.eq (evA (Zbo ek en)) ek) (A.eq (evB (Zbo ek en)) en))) (none)) (F (AV.bool false) (none)))))))) (bB (A.not (A.eq (evE ek en) 0)) (F (AV.bool true) (none)) (rB [decide (List.length (Zbo ek en)≤1000000)] (bB (A.eq (evC (Zbo ek en)) 0) (F (AV.bool (Zah (A.eq (evA (Zbo ek en)) ek) (A.eq (evB (Zbo ek en)) en))) (none)) (F (AV.bool false) (none)))))) (bB (A.not (A.eq (evE ek en) 0)) (F (AV.bool true) (none)) (rB [decide (List.length (Zbo ek en)≤1000000)] (bB (A.eq (evC (Zbo ek en)) 0) (F (AV.bool (Zah (A.eq (evA (Zbo ek en)) ek) (A.eq (evB (Zbo ek en)) en))) (none)) (F (AV.bool false) (none)))))) (bB (A.not (A.eq (evE ek en) 0)) (F (AV.bool true) (none)) (rB [decide (List.length (Zbo ek en)≤1000000)] (bB (A.eq (evC (Zbo ek en)) 0) (F (AV.bool (Zah (A.eq (evA (Zbo ek en)) ek) (A.eq (evB (Zbo ek en)) en))) (none)) (F (AV.bool false) (none))))))))))))))))
theorem Zxs{A:Ar}{K:KT}{F:FT}{M:MT}{a b c ek en:Int}{s:List UInt8} :ZaE A tab Ls6 11 K F M (.run 12 (.fy (.run 8 (.tf (.run 5 (.fn)) (.run 55 (.tf (.ty (.ty (.ty (.ty (.run 1 (.ty (.ty (.ty (.ty (.run 1 (.ty (.ty (.ty (.ty (.ty (.run 1 (.ty (.ty (.ty (.run 2 (.ty (.ty (.run 1 (.ty (.ty (.ty (.ty (.run 1 (.ty (.ty (.ty (.ty (.run 2 (.ty (.run 5 (.fn)))))))))))))))))))))))))))))))))))) (.fy (.fy (.fy (.fy (.run 1 (.tf (.ty (.ty (.ty (.run 1 (.ty (.ty (.ty (.ty (.ty (.run 1 (.ty (.ty (.ty (.run 2 (.ty (.ty (.run 1 (.ty (.ty (.ty (.ty (.run 1 (.ty (.ty (.ty (.ty (.run 2 (.ty (.run 5 (.fn)))))))))))))))))))))))))))))) (.fy (.fy (.fy (.run 1 (.tf (.ty (.ty (.ty (.ty (.run 1 (.ty (.ty (.ty (.run 2 (.ty (.ty (.run 1 (.ty (.ty (.ty (.ty (.run 1 (.ty (.ty (.ty (.ty (.run 2 (.ty (.run 5 (.fn))))))))))))))))))))))))) (.fy (.fy (.fy (.fy (.run 1 (.tf (.ty (.ty (.run 2 (.ty (.ty (.run 1 (.ty (.ty (.ty (.ty (.run 1 (.ty (.ty (.ty (.ty (.run 2 (.ty (.run 5 (.fn))))))))))))))))))) (.fy (.fy (.tf (.ty (.alt [false,true] (.fy (.run 1 (.tf (.ty (.ty (.ty (.run 1 (.ty (.ty (.ty (.ty (.run 2 (.ty (.run 5 (.fn)))))))))))) (.fy (.fy (.fy (.run 1 (.tf (.ty (.ty (.ty (.run 2 (.ty (.run 5 (.fn))))))) (.fy (.fy (.fy (.run 2 (.tf (.run 5 (.fn)) (.run 8 (.tf (.ty (.ty (.ty (.ty (.run 1 (.tf (.ty (.ty (.ty (.ty (.run 2 (.tf (.run 16 (.tf (.ty (.ty (.ty (.run 2 (.ty (.run 5 (.fn))))))) (.fy (.fy (.fy (.run 2 (.tf (.run 5 (.fn)) (.run 8 (.tf (.run 5 (.fn)) (.run 17 (.tf (.ty (.ty (.ty (.run 4 (.fn))))) (.fy (.fy (.fy (.run 4 (.fn)))))))))))))))) (.run 8 (.tf (.run 5 (.fn)) (.run 17 (.tf (.ty (.ty (.ty (.run 4 (.fn))))) (.fy (.fy (.fy (.run 4 (.fn))))))))))))))) (.fy (.fy (.fy (.fy (.run 2 (.fy (.run 8 (.tf (.run 5 (.fn)) (.run 17 (.tf (.ty (.ty (.ty (.run 4 (.fn))))) (.fy (.fy (.fy (.run 4 (.fn))))))))))))))))))))) (.fy (.fy (.fy (.fy (.run 1 (.fy (.fy (.fy (.fy (.fy (.run 2 (.fy (.run 8 (.tf (.run 5 (.fn)) (.run 17 (.tf (.ty (.ty (.ty (.run 4 (.fn))))) (.fy (.fy (.fy (.run 4 (.fn)))))))))))))))))))))))))))))))))))) (.no))) (.fy (.alt [false,false] (.fy (.run 1 (.fy (.fy (.fy (.fy (.run 1 (.tf (.ty (.ty (.ty (.run 2 (.ty (.run 5 (.fn))))))) (.fy (.fy (.fy (.run 2 (.tf (.run 5 (.fn)) (.run 8 (.tf (.ty (.ty (.ty (.ty (.run 1 (.tf (.ty (.ty (.ty (.ty (.run 2 (.tf (.run 16 (.tf (.ty (.ty (.ty (.run 2 (.ty (.run 5 (.fn))))))) (.fy (.fy (.fy (.run 2 (.tf (.run 5 (.fn)) (.run 8 (.tf (.run 5 (.fn)) (.run 17 (.tf (.ty (.ty (.ty (.run 4 (.fn))))) (.fy (.fy (.fy (.run 4 (.fn)))))))))))))))) (.run 8 (.tf (.run 5 (.fn)) (.run 17 (.tf (.ty (.ty (.ty (.run 4 (.fn))))) (.fy (.fy (.fy (.run 4 (.fn))))))))))))))) (.fy (.fy (.fy (.fy (.run 2 (.fy (.run 8 (.tf (.run 5 (.fn)) (.run 17 (.tf (.ty (.ty (.ty (.run 4 (.fn))))) (.fy (.fy (.fy (.run 4 (.fn))))))))))))))))))))) (.fy (.fy (.fy (.fy (.run 1 (.fy (.fy (.fy (.fy (.fy (.run 2 (.fy (.run 8 (.tf (.run 5 (.fn)) (.run 17 (.tf (.ty (.ty (.ty (.run 4 (.fn))))) (.fy (.fy (.fy (.run 4 (.fn)))))))))))))))))))))))))))))))))))) (.no))))))))))))))))))))))))))))) (ZBV a b c ek en s) []=ZuD A K F a b c ek en s:=by kernel_rfl
end Go.Proofs.YtkeoeooghhjibaaGreatDoor
/- CommandStrings: the law -/
namespace Go.Proofs.YtkeoeooghhjibaaGreatDoor
theorem Zx2(s:List UInt8):(Zn3 s=true→Zl6 s=0)∧(Zn3 s=false→Zl6 s=7):=by
 unfold Zn3 Zl6
 constructor
 ·intro h;rw[if_pos h]
 ·intro h;rw[if_neg (by rw[h];simp)]
theorem Zht:∀k u:Nat,u<10^(k+1)→(Lib.decDigits u).length≤k+1
 |0,u,h=>by rw[Lib.decDigits,dif_pos (by simpa using h)];simp
 |k+1,u,h=>by
  rw[Lib.decDigits]
  split
  ·simp
  ·have ih:=Zht k (u/10) (by rw[Nat.pow_succ]at h;omega)
   simp;omega
theorem Zps(n:Int)(h0:0≤n)(h1:n≤1000000000000):∃u:Nat,Lib.itoa n=Lib.decDigits u∧(u:Int)=n∧(Lib.decDigits u).length≤13:=by
 refine⟨n.toNat,?_,by omega,Zht 12 _ (by have:(10:Nat)^(12+1)=10000000000000:=(by decide);omega)⟩
 have:=ZhP n.toNat
 rwa[show ((n.toNat:Nat):Int)=n by omega]at this
theorem Zfr(n:Int)(h0:0≤n)(h1:n≤1000000000000):(32:UInt8)∉Lib.itoa n∧Zdi (Lib.itoa n) 13=true∧ZaL (Lib.itoa n) 13=n∧Zch (Lib.itoa n) 13=true∧ZbK (Lib.itoa n)=n:=by
 obtain⟨u,e,hu,hl⟩:=Zps n h0 h1
 rw[e]
 have ho:=Zgm u 13 (by omega)
 have hb:Zch (Lib.decDigits u) 13=true:=(Zfi _ 13 (by decide)).2 ⟨u,rfl,by omega⟩
 refine⟨Zlc u,?_,?_,hb,?_⟩
 ·unfold Zdi;rw[ho];rfl
 ·unfold ZaL;rw[ho];exact hu
 ·rw[Zgt u (by omega)];exact hu
theorem Zn8(a b c:Int)(ha:0≤a∧a≤8)(hb:0≤b∧b≤1000000000000)(hc:0≤c∧c≤1000000000000):Zl6 (ZaA [a,b,c])=0∧Zdg (ZaA [a,b,c]) 0=a∧Zdg (ZaA [a,b,c]) 1=b∧Zdg (ZaA [a,b,c]) 2=c:=by
 obtain⟨a1,a2,a3,_,_⟩:=Zfr a ha.1 (by omega)
 obtain⟨b1,b2,b3,_,_⟩:=Zfr b hb.1 hb.2
 obtain⟨c1,c2,c3,_,_⟩:=Zfr c hc.1 hc.2
 have hW:(Zcp (ZaA [a,b,c]) 32).map AV.toS=[Lib.itoa a,Lib.itoa b,Lib.itoa c]:=by
  have h2:=Zfl (ZaA [a,b,c]) 32
  rw[show (((32:UInt8).toNat:Nat):Int)=32 from rfl]at h2
  rw[h2,ZnN,List.append_assoc,List.append_assoc,List.append_assoc,List.singleton_append,ZcY 32 _ _ a1,List.singleton_append,ZcY 32 _ _ b1,Zhz 32 _ c1]
 have hlen:(Zcp (ZaA [a,b,c]) 32).length=3:=by
  have:=congrArg List.length hW
  simpa using this
 have w0:AV.toS ((Zcp (ZaA [a,b,c]) 32).getD 0 .top)=Lib.itoa a:=by rw[Zbv,hW];rfl
 have w1:AV.toS ((Zcp (ZaA [a,b,c]) 32).getD 1 .top)=Lib.itoa b:=by rw[Zbv,hW];rfl
 have w2:AV.toS ((Zcp (ZaA [a,b,c]) 32).getD 2 .top)=Lib.itoa c:=by rw[Zbv,hW];rfl
 have hG:Zfg (Zcp (ZaA [a,b,c]) 32)=true:=by
  unfold Zfg Zct
  rw[w0,w1,w2,a2,b2,c2,a3,b3,c3]
  simp[hlen,ha.1,hb.1,hc.1]
 unfold Zl6 Zdg
 rw[if_pos hG,if_pos hG,if_pos hG,if_pos hG,w0,w1,w2]
 exact⟨rfl,a3,b3,c3⟩
theorem Zgw:∀k,k<9→(32:UInt8)∉ZbL k:=by unfold ZbL wordsE;decide
theorem ZjU(l1:List UInt8)(b2:Bool)(k:Nat)(hk:k<9)(hb:Zbn (k:Int)=b2):∀m i,i+m=9→i≤k→evF (ZbL k) l1 b2 m i=if b2=true then(if Zch l1 13=true then evR k (ZbK l1)else(0,0,7))else evR k 0
 |0,i,h,h2=>by omega
 |m+1,i,h,h2=>by
  rw[evF]
  by_cases e:i=k
  ·subst e
   rw[if_pos ⟨rfl,hb⟩]
  ·rw[if_neg (fun q=>e (Zjg i (by omega) k hk q.1))]
   exact ZjU l1 b2 k hk hb m (i+1) (by omega) (by omega)
theorem ZoA(x t:List UInt8)(h:(32:UInt8)∉x):Lib.cut (x++32::t) [32]=(x,t,true):=by
 have hi:Lib.index (x++32::t) [32]=x.length:=by
  rcases ZfS 32 (x++32::t)with⟨q,_⟩ |⟨y,u,q1,q2,q3⟩
  ·exact absurd (by simp) q
  ·rw[q3]
   have e:Zde 32 (x++32::t)=Zde 32 (y++32::u):=by rw[q1]
   rw[ZcY 32 x t h,ZcY 32 y u q2]at e
   rw[(List.cons.inj e).1]
 unfold Lib.cut
 rw[hi,if_pos (by omega)]
 simp
theorem ZoB(x:List UInt8)(h:(32:UInt8)∉x):Lib.cut x [32]=(x,[],false):=by
 rcases ZgC x with⟨_,q,_⟩ |⟨_,_,q,_⟩
 ·exact q
 ·exact absurd q h
theorem Zpx(k n:Int)(h:evE k n=0):evC (Zbo k n)=0∧evA (Zbo k n)=k∧evB (Zbo k n)=n:=by
 have hw:Zae k 0 8=true:=by
  by_cases hw:Zae k 0 8=true
  ·exact hw
  ·unfold evE at h;rw[if_neg hw]at h;cases h
 have hk:0≤k∧k≤8:=by simpa[Zae]using hw
 obtain⟨j,rfl⟩:∃j:Nat,k=j:=⟨k.toNat,by omega⟩
 have hj:j<9:=by omega
 have key:Zng (Zbo j n)=((j:Int),n,0):=by
  unfold Zbo
  rw[if_pos hw,Int.toNat_natCast]
  by_cases hn:Zbn (j:Int)=true
  ·have hr:0≤n∧n≤1000000000000:=by
    unfold evE at h
    rw[if_pos hw]at h
    simp only[Zbn,Bool.or_eq_true,decide_eq_true_eq]at hn
    by_cases q0:(j:Int)=0
    ·rw[if_pos q0]at h
     by_cases q:Zae n 1 1000000000000=true
     ·have:1≤n∧n≤1000000000000:=by simpa[Zae]using q
      omega
     ·simp[Zat,q]at h
    ·rw[if_neg q0]at h
     by_cases q1:(j:Int)=1
     ·rw[if_pos q1]at h
      by_cases q:Zae n 0 11=true
      ·have:0≤n∧n≤11:=by simpa[Zae]using q
       omega
      ·simp[Zat,q]at h
     ·rw[if_neg q1,if_pos (hn.resolve_left (by omega))]at h
      by_cases q:Zae n 0 5=true
      ·have:0≤n∧n≤5:=by simpa[Zae]using q
       omega
      ·simp[Zat,q]at h
   obtain⟨_,_,_,b4,b5⟩:=Zfr n hr.1 hr.2
   rw[if_pos hn]
   unfold Zng
   rw[List.append_assoc,List.singleton_append,ZoA _ _ (Zgw j hj)]
   simp only
   rw[ZjU (Lib.itoa n) true j hj hn 9 0 rfl (Nat.zero_le _),if_pos rfl,if_pos b4,b5]
   unfold evR;rw[if_pos h]
  ·have hn':Zbn (j:Int)=false:=by simpa using hn
   have h0:n=0:=by
    unfold evE at h
    simp only[Zbn,Bool.or_eq_true,decide_eq_true_eq,not_or]at hn
    rw[if_pos hw,if_neg (fun q=>hn.1.1 q),if_neg (fun q=>hn.1.2 q),if_neg hn.2]at h
    by_cases q:n=0
    ·exact q
    ·simp[Zat,q]at h
   subst h0
   rw[if_neg hn]
   unfold Zng
   rw[ZoB _ (Zgw j hj)]
   simp only
   rw[ZjU [] false j hj hn' 9 0 rfl (Nat.zero_le _),if_neg (by simp)]
   unfold evR;rw[if_pos h]
 unfold evA evB evC
 rw[key]
 exact⟨rfl,rfl,rfl⟩
theorem Zjx(a b c ek en:Int)(s:List UInt8)(ha:Zbx a=true)(hb:Zbx b=true)(hc:Zbx c=true)(hn:Zbx en=true):Zan Tryz.prog 11 [.agg (.gen [.int .i64 a, .int .i64 b, .int .i64 c]), .agg (.gen [.int .i64 ek, .int .i64 en]), .str s] (.bool true) none:=
 start (Zqt a b c ek en s) fun C hC=>tgo hC ZvA Zxs (by
  simp only[ZuD,ZmT]
  have la:=Zcc a ha
  have lb:=Zcc b hb
  have lc:=Zcc c hc
  have ln:=Zcc en hn
  have hlj:(ZaA [a,b,c]).length≤1000000:=by rw[ZnN];simp;omega
  have hle:(Zbo ek en).length≤1000000:=by
   unfold Zbo
   by_cases hw:Zae ek 0 8=true
   ·have hk:0≤ek∧ek≤8:=by simpa[Zae]using hw
    have:=Zlg ek.toNat (by omega)
    rw[if_pos hw]
    split<;>simp<;>omega
   ·rw[if_neg hw];simp
  by_cases hs:100<(s.length:Int)
  ·simp[hs]
  ·have hs2:s.length≤1000000:=by omega
   obtain⟨p1,p2⟩:=Zx2 s
   have hev:=Zpx ek en
   have hab:=Zn8 a b c
   have fin:evE ek en=0→evC (Zbo ek en)=0∧evA (Zbo ek en)=ek∧evB (Zbo ek en)=en:=hev
   have h1:∀B:Bool,(Zn3 s=B→Zl6 s=if B=true then 0 else 7):=fun B q=>by
    cases B
    ·exact p2 q
    ·exact p1 q
   cases hB:Zn3 s
   all_goals
    have e0:=h1 _ hB
    by_cases he:evE ek en=0
    ·obtain⟨f1,f2,f3⟩:=fin he
     by_cases w1:Zae a 0 8=true
     ·by_cases w2:Zae b 0 1000000000000=true
      ·by_cases w3:Zae c 0 1000000000000=true
       ·obtain⟨g1,g2,g3,g4⟩:=hab (by simpa[Zae]using w1) (by simpa[Zae]using w2) (by simpa[Zae]using w3)
        simp[hs,hs2,ha,hb,hc,hn,e0,he,w1,w2,w3,f1,f2,f3,g1,g2,g3,g4,hlj,hle]
       ·simp[hs,hs2,ha,hb,hc,hn,e0,he,w1,w2,w3,f1,f2,f3,hlj,hle]
      ·simp[hs,hs2,ha,hb,hc,hn,e0,he,w1,w2,f1,f2,f3,hlj,hle]
     ·simp[hs,hs2,ha,hb,hc,hn,e0,he,w1,f1,f2,f3,hlj,hle]
    ·by_cases w1:Zae a 0 8=true
     ·by_cases w2:Zae b 0 1000000000000=true
      ·by_cases w3:Zae c 0 1000000000000=true
       ·obtain⟨g1,g2,g3,g4⟩:=hab (by simpa[Zae]using w1) (by simpa[Zae]using w2) (by simpa[Zae]using w3)
        simp[hs,hs2,ha,hb,hc,hn,e0,he,w1,w2,w3,g1,g2,g3,g4,hlj]
       ·simp[hs,hs2,ha,hb,hc,hn,e0,he,w1,w2,w3]
      ·simp[hs,hs2,ha,hb,hc,hn,e0,he,w1,w2]
     ·simp[hs,hs2,ha,hb,hc,hn,e0,he,w1])
end Go.Proofs.YtkeoeooghhjibaaGreatDoor
