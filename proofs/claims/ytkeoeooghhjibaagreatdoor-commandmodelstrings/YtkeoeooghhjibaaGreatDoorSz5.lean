/- Texts cut at a byte, numbers of texts: plain. No condition. -/
import Derived.Test.YtkeoeooghhjibaaGreatDoorSx
import Derived.Lib.SplitLaws
import Derived.Lib.AtoiTie
import Derived.Lib.AtoiAllCases
import Derived.Lib.ItoaLen
import Derived.KernelRfl
namespace Go.Proofs.YtkeoeooghhjibaaGreatDoor
def Zba(c:UInt8):List UInt8→List (List UInt8)
 |[]=>[[]]
 |x::s=>if x=c then []::Zba c s else match Zba c s with |[]=>[[x]] |y::ys=>(x::y)::ys
theorem Zjw(c:UInt8):∀s,Zba c s≠[]
 |[]=>by simp[Zba]
 |x::s=>by
  rw[Zba]
  split
  ·simp
  ·split<;>simp
theorem ZiO(c:UInt8):∀s:List UInt8,Lib.splitK [c] 0 (s.count c) s=Zba c s
 |[]=>rfl
 |x::s=>by
  have ih:=ZiO c s
  rw[Zba]
  by_cases h:x=c
  ·subst h
   rw[if_pos rfl,List.count_cons_self,Lib.splitK]
   have hi:Lib.index (x::s) [x]=0:=by simp[Lib.index]
   rw[hi]
   simpa using ih
  ·rw[if_neg h,List.count_cons_of_ne h,←ih]
   cases hk:s.count c with
   |zero=>rfl
   |succ k=>
    have hi:Lib.index (x::s) [c]=if Lib.index s [c]== -1 then -1 else Lib.index s [c]+1:=by
     rw[Lib.index]
     simp[Ne.symm h]
    have hge:=Lib.index_ge s [c]
    rw[Lib.splitK,Lib.splitK,hi]
    by_cases h1:Lib.index s [c]= -1
    ·simp[h1]
    ·obtain⟨i,hi⟩:∃i:Nat,Lib.index s [c]=i:=⟨(Lib.index s [c]).toNat,by omega⟩
     have h2:¬((i:Int)+1= -1):=by omega
     have h3:¬((i:Int)= -1):=by omega
     have h4:((i:Int)+1).toNat=i+1:=by omega
     simp[hi,h2,h3,h4]
theorem Zk8(s:List UInt8)(c:UInt8):Zac s [c]=Zba c s:=by
 unfold Zac
 rw[Lib.splitB_data,←ZiO]
 congr 1
 have:Lib.countB ⟨s.toArray⟩ ⟨[c].toArray⟩=Lib.count s [c]:=by first |rfl |simp[Lib.countB]
 rw[this,Lib.count_one]
theorem Zln(s:List UInt8)(c:UInt8):∀(m i f:Nat),i+m=s.length→f≤i→(Zl4 s (c.toNat:Int) m i f).map AV.toS=match Zba c (s.drop i)with |[]=>[] |y::ys=>((s.drop f).take (i-f)++y)::ys
 |0,i,f,hi,hf=>by
  obtain rfl:i=s.length:=by omega
  rw[List.drop_length]
  simp[Zl4,Zba,AV.toS]
  rw[List.take_of_length_le (by simp)]
 |m+1,i,f,hi,hf=>by
  have hlt:i<s.length:=by omega
  rw[List.drop_eq_getElem_cons hlt,Zba,Zl4]
  have hg:s.getD i 0=s[i]:=by rw[List.getD_eq_getElem?_getD,List.getElem?_eq_getElem hlt];rfl
  have hcc:((s.getD i 0).toNat:Int)=(c.toNat:Int)↔s[i]=c:=by
   rw[hg]
   constructor
   ·intro h;exact UInt8.toNat_inj.1 (by omega)
   ·intro h;rw[h]
  by_cases h:s[i]=c
  ·have ih:=Zln s c m (i+1) (i+1) (by omega) (Nat.le_refl _)
   rw[if_pos (hcc.2 h),if_pos h,List.map_cons,ih]
   have:(match Zba c (s.drop (i+1))with |[]=>[] |y::ys=>((s.drop (i+1)).take (i+1-(i+1))++y)::ys)=Zba c (s.drop (i+1)):=by
    cases hq:Zba c (s.drop (i+1))with
    |nil=>exact absurd hq (Zjw _ _)
    |cons y ys=>simp
   rw[this]
   simp[AV.toS]
  ·have ih:=Zln s c m (i+1) f (by omega) (by omega)
   rw[if_neg (fun q=>h (hcc.1 q)),if_neg h,ih]
   have ht:(s.drop f).take (i+1-f)=(s.drop f).take (i-f)++[s[i]]:=by
    rw[show i+1-f=(i-f)+1 by omega,List.take_add_one,List.getElem?_drop,show f+(i-f)=i by omega,List.getElem?_eq_getElem hlt];rfl
   cases hq:Zba c (s.drop (i+1))with
   |nil=>exact absurd hq (Zjw _ _)
   |cons y ys=>simp[ht]
theorem ZcY(s:List UInt8)(c:UInt8):(Zay s (c.toNat:Int)).map AV.toS=Zba c s:=by
 unfold Zay
 rw[Zln s c s.length 0 0 (by omega) (Nat.le_refl _)]
 cases hq:Zba c (s.drop 0)with
 |nil=>exact absurd hq (Zjw _ _)
 |cons y ys=>simpa using hq.symm
theorem ZeW(c:UInt8):∀(x s:List UInt8),c∉x→Zba c (x++c::s)=x::Zba c s
 |[],s,_=>by rw[List.nil_append,Zba,if_pos rfl]
 |y::x,s,h=>by
  have ih:=ZeW c x s (fun q=>h (List.mem_cons_of_mem _ q))
  rw[List.cons_append,Zba,if_neg (fun e=>h (by rw[e];exact List.mem_cons_self)),ih]
theorem ZcS(c:UInt8):∀(x:List UInt8),c∉x→Zba c x=[x]
 |[],_=>rfl
 |y::x,h=>by
  have ih:=ZcS c x (fun q=>h (List.mem_cons_of_mem _ q))
  rw[Zba,if_neg (fun e=>h (by rw[e];exact List.mem_cons_self)),ih]
theorem Zh9(s:List UInt8):∀(m i n:Nat),i+m=s.length→Zl5 s m i (n:Int)=(Lib.decFrom n (s.drop i)).map fun q:Nat=>(q:Int)
 |0,i,n,hi=>by rw[List.drop_of_length_le (by omega)];rfl
 |m+1,i,n,hi=>by
  have hlt:i<s.length:=by omega
  have hg:s.getD i 0=s[i]:=by rw[List.getD_eq_getElem?_getD,List.getElem?_eq_getElem hlt];rfl
  rw[List.drop_eq_getElem_cons hlt,Zl5,Lib.decFrom,hg]
  unfold Lib.digitVal
  by_cases h:48≤s[i].toNat∧s[i].toNat≤57
  ·rw[if_neg (by omega),if_pos h]
   have ih:=Zh9 s m (i+1) (n*10+(s[i].toNat-48)) (by omega)
   rw[←ih]
   congr 1
   omega
  ·rw[if_pos (by omega),if_neg h];rfl
theorem Zeo:∀(t:List UInt8) (acc:Nat) (c:UInt8),Lib.decFrom acc (t++[c])=(Lib.decFrom acc t).bind fun n=>(Lib.digitVal c).map fun d=>n*10+d
 |[],acc,c=>by
  rw[List.nil_append]
  simp only[Lib.decFrom,Option.bind_some]
  cases Lib.digitVal c<;>rfl
 |b::t,acc,c=>by
  rw[List.cons_append,Lib.decFrom,Lib.decFrom]
  cases Lib.digitVal b with
  |none=>rfl
  |some d=>exact Zeo t _ c
theorem ZeB(c:Nat)(h:c<10):(UInt8.ofNat (48+c)).toNat=48+c:=by
 simp[UInt8.toNat_ofNat'];omega
theorem ZkV:∀u:Nat,Lib.decFrom 0 (Lib.decDigits u)=some u:=by
 intro u
 induction u using Nat.strongRecOn with
 |ind u ih=>
  rw[Lib.decDigits]
  by_cases h:u<10
  ·rw[dif_pos h]
   simp only[Lib.decFrom,Lib.digitVal,ZeB u h]
   rw[if_pos (by omega)]
   simp
  ·rw[dif_neg h,Zeo,ih (u/10) (by omega)]
   simp only[Option.bind_some,Lib.digitVal,ZeB (u%10) (by omega)]
   rw[if_pos (by omega)]
   simp;omega
theorem ZgM:∀u:Nat,∀c∈Lib.decDigits u,48≤c.toNat∧c.toNat≤57:=by
 intro u
 induction u using Nat.strongRecOn with
 |ind u ih=>
  intro c hc
  rw[Lib.decDigits]at hc
  by_cases h:u<10
  ·rw[dif_pos h]at hc
   simp only[List.mem_singleton]at hc
   subst hc
   rw[ZeB u h];omega
  ·rw[dif_neg h]at hc
   rcases List.mem_append.1 hc with hc |hc
   ·exact ih (u/10) (by omega) c hc
   ·simp only[List.mem_singleton]at hc
    subst hc
    rw[ZeB _ (by omega)];omega
theorem ZjB(u:Nat):Lib.decDigits u≠[]:=by
 rw[Lib.decDigits]
 split<;>simp
theorem ZnR:∀u:Nat,10≤u→∀c,(Lib.decDigits u).head? =some c→c.toNat≠48:=by
 intro u
 induction u using Nat.strongRecOn with
 |ind u ih=>
  intro h10 c hc
  rw[Lib.decDigits,dif_neg (by omega)]at hc
  have hne:=ZjB (u/10)
  obtain⟨y,ys,hy⟩:=List.exists_cons_of_ne_nil hne
  rw[hy,List.cons_append,List.head?_cons]at hc
  cases hc
  by_cases h2:10≤u/10
  ·exact ih (u/10) (by omega) h2 c (by rw[hy];rfl)
  ·rw[Lib.decDigits,dif_pos (by omega)]at hy
   cases hy
   rw[ZeB _ (by omega)];omega
theorem Zsl:∀(k:Nat) (s:List UInt8) (n:Nat),s.length=k→s≠[]→Lib.decFrom 0 s=some n→(∀c,s.head? =some c→c.toNat=48→s.length=1)→Lib.decDigits n=s:=by
 intro k
 induction k with
 |zero=>intro s n h1 h2;exact absurd (List.eq_nil_of_length_eq_zero h1) h2
 |succ k ih=>
  intro s n h1 h2 h3 h4
  obtain⟨t,c,rfl⟩:∃t c,s=t++[c]:=⟨s.dropLast,s.getLast h2,(List.dropLast_concat_getLast h2).symm⟩
  rw[Zeo]at h3
  cases ht:Lib.decFrom 0 t with
  |none=>rw[ht]at h3;cases h3
  |some q=>
   rw[ht,Option.bind_some]at h3
   unfold Lib.digitVal at h3
   by_cases hd:48≤c.toNat∧c.toNat≤57
   ·rw[if_pos hd]at h3
    simp only[Option.map_some,Option.some.injEq]at h3
    have hc:UInt8.ofNat (48+(c.toNat-48))=c:=by
     rw[show 48+(c.toNat-48)=c.toNat by omega];simp
    by_cases hn:t=[]
    ·subst hn
     simp only[Lib.decFrom,Option.some.injEq]at ht
     subst ht
     rw[Lib.decDigits,dif_pos (by omega),←h3,show 0*10+(c.toNat-48)=c.toNat-48 by omega,hc];rfl
    ·obtain⟨y,ys,rfl⟩:=List.exists_cons_of_ne_nil hn
     have hy:y.toNat≠48:=fun e=>by
      have:=h4 y rfl e
      simp at this
     have hq:=ih (y::ys) q (by simpa using h1) hn ht (fun c' hc' e=>by simp only[List.head?_cons,Option.some.injEq]at hc';subst hc';exact absurd e hy)
     have hq0:q≠0:=fun e=>by
      subst e
      rw[Lib.decDigits,dif_pos (by omega)]at hq
      cases hq
      exact hy (ZeB 0 (by omega))
     rw[Lib.decDigits,dif_neg (by omega),show n/10=q by omega,hq,show n%10=c.toNat-48 by omega,hc]
   ·rw[if_neg hd]at h3;cases h3
end Go.Proofs.YtkeoeooghhjibaaGreatDoor
/- A number's text, as the program and the reference read it. No condition. -/
namespace Go.Proofs.YtkeoeooghhjibaaGreatDoor
theorem ZjM(u:Nat)(h:(Lib.decDigits u).length≤18):Lib.atoiAll (Lib.decDigits u)=.ok (u:Int):=by
 rw[Lib.atoiAll_short _ h]
 obtain⟨c,r,hcr⟩:=List.exists_cons_of_ne_nil (ZjB u)
 have hm:=ZgM u c (by rw[hcr];exact List.mem_cons_self)
 have h1:¬c=45:=fun e=>by rw[e]at hm;exact absurd hm.1 (by decide)
 have h2:¬c=43:=fun e=>by rw[e]at hm;exact absurd hm.1 (by decide)
 have hd:=ZkV u
 rw[hcr]at hd⊢
 simp[Lib.atoi,h1,h2,Lib.decNat,hd,Lib.NumEnd.ofOption]
theorem Zia(u:Nat):Lib.itoa (u:Int)=Lib.decDigits u:=by
 unfold Lib.itoa;rw[if_neg (by omega)];rfl
theorem Zps(s:List UInt8)(d:Int)(hd:d≤18):ZdK s d=true↔∃u:Nat,Lib.decDigits u=s∧(s.length:Int)≤d:=by
 constructor
 ·intro h
  unfold ZdK at h
  split at h
  ·rename_i v hv
   simp only[Bool.and_eq_true,decide_eq_true_eq]at h
   refine⟨v.toNat,?_,h.2.2⟩
   have e:=Zia v.toNat
   rw[show ((v.toNat:Nat):Int)=v by omega]at e
   rw[←e];exact h.2.1
  ·cases h
 ·rintro⟨u,rfl,hl⟩
  unfold ZdK
  rw[ZjM u (by omega)]
  simp only[Bool.and_eq_true,decide_eq_true_eq]
  exact⟨by omega,Zia u,hl⟩
theorem ZnC(u:Nat)(h:(Lib.decDigits u).length≤18):Zbn (Lib.decDigits u)=u:=by
 unfold Zbn;rw[ZjM u h]
theorem Zje{s:List UInt8}{c:UInt8}{k:Nat}(h:(s.drop k).head? =some c):s.getD k 0=c∧k<s.length:=by
 rw[List.head?_drop]at h
 obtain⟨h1,h2⟩:=List.getElem?_eq_some_iff.1 h
 exact⟨by rw[List.getD_eq_getElem?_getD,h];rfl,h1⟩
theorem Zfp(u:Nat)(d:Int)(h:((Lib.decDigits u).length:Int)≤d):Ze0 (Lib.decDigits u) d=some (u:Int):=by
 obtain⟨c,r,hcr⟩:=List.exists_cons_of_ne_nil (ZjB u)
 have hm:=ZgM u c (by rw[hcr];exact List.mem_cons_self)
 have hg:(Lib.decDigits u).getD 0 0=c:=by rw[hcr];rfl
 have hlen:0<(Lib.decDigits u).length:=by rw[hcr];simp
 have ha:Zdh (Lib.decDigits u)=0:=by
  unfold Zdh;rw[hg,if_neg];intro q;omega
 have h1:c.toNat=48→¬1<(Lib.decDigits u).length:=fun e hl=>by
  by_cases h10:10≤u
  ·exact ZnR u h10 c (by rw[hcr];rfl) e
  ·rw[Lib.decDigits,dif_pos (by omega)]at hl
   simp at hl
 have hG:Zm4 (Lib.decDigits u) d=true:=by
  unfold Zm4
  rw[ha,hg]
  exact decide_eq_true ⟨by omega,by omega,fun q=>h1 q.1 q.2⟩
 unfold Ze0
 rw[if_pos hG,ha]
 have hn:=Zh9 (Lib.decDigits u) (Lib.decDigits u).length 0 0 (by omega)
 rw[List.drop_zero,ZkV]at hn
 rw[Nat.sub_zero]
 rw[show (0:Int)=((0:Nat):Int)from rfl,hn]
 simp
theorem ZpC(s:List UInt8)(d v:Int)(h:Ze0 s d=some v)(hv:0≤v):∃u:Nat,Lib.decDigits u=s∧(s.length:Int)≤d:=by
 unfold Ze0 at h
 by_cases hG:Zm4 s d=true
 ·rw[if_pos hG]at h
  simp only[Zm4,decide_eq_true_eq]at hG
  obtain⟨g1,g2,g3⟩:=hG
  by_cases ha:Zdh s=1
  ·rw[ha]at h g1 g2 g3
   have hpos:0<s.length:=by
    unfold Zdh at ha
    split at ha
    ·rename_i q;exact q.1
    ·cases ha
   have hn:=Zh9 s (s.length-1) 1 0 (by omega)
   rw[show ((0:Nat):Int)=0 from rfl]at hn
   rw[hn]at h
   cases hq:Lib.decFrom 0 (s.drop 1)with
   |none=>rw[hq]at h;cases h
   |some q=>
    rw[hq]at h
    simp only[Option.map_some,if_pos,Option.some.injEq]at h
    have hq0:q=0:=by omega
    subst hq0
    have hne:s.drop 1≠[]:=fun e=>by
     have:=congrArg List.length e
     simp at this;omega
    have e:=Zsl _ (s.drop 1) 0 rfl hne hq (fun c hc e48=>by
     obtain⟨q1,q2⟩:=Zje hc
     exact absurd ⟨by rw[q1];exact e48,q2⟩ g3)
    rw[Lib.decDigits,dif_pos (by decide)]at e
    obtain⟨q1,q2⟩:=Zje (k:=1) (s:=s) (c:=UInt8.ofNat (48+0)) (by rw[←e];rfl)
    exact absurd ⟨by rw[q1];rfl,q2⟩ g3
  ·have ha:Zdh s=0:=by
    unfold Zdh at ha⊢
    split at ha
    ·exact absurd rfl ha
    ·rename_i q;rw[if_neg q]
   rw[ha]at h g1 g2 g3
   rw[Nat.sub_zero]at h
   have hn:=Zh9 s s.length 0 0 (by omega)
   rw[show ((0:Nat):Int)=0 from rfl,List.drop_zero]at hn
   rw[hn]at h
   cases hq:Lib.decFrom 0 s with
   |none=>rw[hq]at h;cases h
   |some q=>
    have hne:s≠[]:=fun e=>g1 (by rw[e];rfl)
    refine⟨q,Zsl _ s q rfl hne hq (fun c hc e48=>?_),by omega⟩
    obtain⟨q1,q2⟩:=Zje (k:=0) (by rw[List.drop_zero];exact hc)
    have:¬1<s.length:=fun hl=>g3 ⟨by rw[q1];exact e48,hl⟩
    omega
 ·rw[if_neg hG]at h;cases h
theorem Zuq(s:List UInt8)(d:Int)(hd:d≤18):ZdK s d=((Ze0 s d).isSome&&decide (0≤(Ze0 s d).getD 0))∧(ZdK s d=true→Zbn s=(Ze0 s d).getD 0):=by
 by_cases h:ZdK s d=true
 ·obtain⟨u,rfl,hl⟩:=(Zps s d hd).1 h
  rw[h,Zfp u d hl]
  exact⟨by simp,fun _=>ZnC u (by omega)⟩
 ·refine⟨?_,fun q=>absurd q h⟩
  cases ho:Ze0 s d with
  |none=>simpa using h
  |some v=>
   by_cases hv:0≤v
   ·exact absurd ((Zps s d hd).2 (ZpC s d v ho hv)) h
   ·simpa[hv]using h
end Go.Proofs.YtkeoeooghhjibaaGreatDoor
/- Contracts as a list. No condition. -/
namespace Go.Proofs.YtkeoeooghhjibaaGreatDoor
theorem Zfj(n:Int)(h:Zfa n=true):(Lib.itoa n).length≤21:=by
 have:=i64B_iff.1 h;exact Lib.itoa_length_le n this.1 this.2
theorem ZEK(a:Int):Za3 [a]=Lib.itoa a:=by unfold Za3;simp[Lib.join_cons,Lib.joinTail]
end Go.Proofs.YtkeoeooghhjibaaGreatDoor
/- Contracts as a list. No condition. -/
namespace Go.Proofs.YtkeoeooghhjibaaGreatDoor
theorem ZrT(p x:List UInt8):∀xs:List (List UInt8),Lib.join (xs++[x]) p=if xs=[]then x else Lib.join xs p++p++x
 |[]=>by simp[Lib.join_one]
 |y::ys=>by
  rw[List.cons_append,Lib.join_cons,Lib.join_cons,if_neg (by simp)]
  simp[Lib.joinTail]
def jnG(ws:List AV)(b:List UInt8):Bool:=decide (ws.length≤1000∧b.length≤1000)&&ws.all fun x=>decide (x.toS.length≤100000)
theorem jnG_iff{ws:List AV}{b:List UInt8} :jnG ws b=true↔(ws.length≤1000∧b.length≤1000)∧∀x∈ws,x.toS.length≤100000:=by simp[jnG]
theorem ZBw{ws:List AV}{b:List UInt8}(h:jnG ws b=true)(k:Nat):(Lib.join ((ws.take k).map AV.toS) b).length≤101000000:=by
 obtain⟨⟨h1,h2⟩,h3⟩:=jnG_iff.1 h
 have:=ZlI b 100000 ((ws.take k).map AV.toS) (by
  intro x hx
  obtain⟨y,hy,rfl⟩:=List.mem_map.1 hx
  exact h3 y (List.mem_of_mem_take hy))
 rw[List.length_map,List.length_take]at this
 exact Nat.le_trans this (Nat.le_trans (Nat.mul_le_mul (show min k ws.length≤1000 by omega) (show 100000+b.length≤101000 by omega)) (by decide))
section
variable {C:Ctx}(hC:C.P=Tryz.prog)
include hC
theorem Zr5(ws:List AV)(b:List UInt8)(hg:jnG ws b=true):∀m k:Nat,k+m=ws.length→Ev C (Zfw ws b (Lib.join ((ws.take k).map AV.toS) b) k) (Zd0 ws b (Lib.join ((ws.take k).map AV.toS) b) k) (ZbH 117 (.str (Lib.join (ws.map AV.toS) b)) none)
 |0,k,hk=>tgo hC Za8 ZhO (by
  obtain rfl:k=ws.length:=by omega
  simp[Zc2])
 |m+1,k,hk=>by
  have ih:=Zr5 ws b hg m (k+1) (by omega)
  have hlt:(k:Int)<ws.length:=by omega
  have hlt2:k<ws.length:=by omega
  have hl:=ZBw hg k
  obtain⟨⟨h1,h2⟩,h3⟩:=jnG_iff.1 hg
  have h4:=h3 _ (ZaC (d:=.top) hlt2)
  have hs:Lib.join ((ws.take (k+1)).map AV.toS) b=(if 0<k then Lib.join ((ws.take k).map AV.toS) b++b else Lib.join ((ws.take k).map AV.toS) b)++(ws.getD k .top).toS:=by
   rw[ZaA (d:=.top) hlt2,List.map_append,List.map_singleton,ZrT]
   by_cases hk0:0<k
   ·rw[if_neg (fun h=>by have:=congrArg List.length h;rw[List.length_map,List.length_take,List.length_nil]at this;omega),if_pos hk0]
   ·obtain rfl:k=0:=by omega
    simp[Lib.join_nil]
  rw[hs]at ih
  refine tgo hC Za8 ZhO ?_
  by_cases hk0:0<k
  ·rw[if_pos hk0]at ih
   simp only[Zc2]
   simp[-List.getD_eq_getElem?_getD, -List.map_take,hlt,hlt2,hk0]
   exact⟨⟨by omega,by omega,by omega⟩,by simpa[-List.map_take]using ih⟩
  ·obtain rfl:k=0:=by omega
   simp[-List.getD_eq_getElem?_getD,Zc2,hlt2,Lib.join_nil]at ih⊢
   exact⟨by omega,by simpa using ih⟩
end
theorem Zhy(ws:List AV)(b:List UInt8)(hg:jnG ws b=true):Zat Tryz.prog 117 [.list (.big .str ws), .str b] (.str (Lib.join (ws.map AV.toS) b)) none:=
 start (Ztz ws b) fun C hC=>tgo hC Za8 ZDr (by
  have:=Zr5 hC ws b hg ws.length 0 (by omega)
  simp[Zv3]
  simpa[Lib.join_nil]using this)
def k117:Ctr:=⟨117,0,fun _ a=>match a with |[.list (.big .str ws), .str b]=>some (decide (jnG ws b=true), .str (Lib.join (ws.map AV.toS) b),none) |_=>none⟩
theorem Zyo:k117.OK Tryz.prog:=fun pa args r fr h=>by
 simp only[k117]at h
 split at h
 ·simp only[Option.some.injEq,Prod.mk.injEq,decide_eq_true_eq]at h
  obtain⟨h0,rfl,rfl⟩:=h
  exact Zhy _ _ h0
 ·cases h
def Lt2:List Ctr:=[k117]++Lt1
theorem ZBR:Zaw Tryz.prog Lt2:=⟨Zyo,Ze2⟩
end Go.Proofs.YtkeoeooghhjibaaGreatDoor
/- Contracts as a list. No condition. -/
namespace Go.Proofs.YtkeoeooghhjibaaGreatDoor
def eqT(x y:AV):Bool:=decide (x.toS=y.toS)
def eqK(x y:AV):Bool:=decide ((x.cellAt 0).toS=(y.cellAt 0).toS∧(x.cellAt 1).toI=(y.cellAt 1).toI)
def Ztg(x y:AV):Bool:=decide ((x.cellAt 0).toS=(y.cellAt 0).toS∧(x.cellAt 1).toI=(y.cellAt 1).toI∧(x.cellAt 2).toI=(y.cellAt 2).toI∧(x.cellAt 3).toI=(y.cellAt 3).toI∧(x.cellAt 4).toI=(y.cellAt 4).toI)
def Zhg(ms ks rs ms1 ks1 rs1:List AV):Bool:=Zcg eqT ms ms1&&(Zcg eqK ks ks1&&Zcg Ztg rs rs1)
theorem ZtJ(x:AV):eqT x x=true:=by simp[eqT]
theorem Zuu(x:AV):eqK x x=true:=by simp[eqK]
theorem Zr1(x:AV):Ztg x x=true:=by simp[Ztg]
def mG(ms ks rs:List AV):Bool:=decide (ms.length≤1000000∧ks.length≤1000000∧rs.length≤1000000)
section
variable {C:Ctx}(hC:C.P=Tryz.prog)(ms ks rs ms1 ks1 rs1:List AV)
include hC
theorem ZHZ(hl:rs.length≤1000000)(hq:rs.length=rs1.length):∀m k:Nat,k+m=rs.length→Ev C (ZjD ms ks rs ms1 ks1 rs1 k) (ZgS ms ks rs ms1 ks1 rs1 k) (ZbH 64 (.bool (Zcg Ztg (rs.drop k) (rs1.drop k))) none)
 |0,k,hk=>tgo hC Za8 Zk5 (by
  rw[List.drop_of_length_le (by omega),List.drop_of_length_le (by omega)]
  simp[ZeK,show ¬(k:Int)<rs.length by omega,Zcg])
 |m+1,k,hk=>by
  have ih:=ZHZ hl hq m (k+1) (by omega)
  rw[ZjU (show k<rs.length by omega),ZjU (show k<rs1.length by omega),Zcg]
  refine tgo hC Za8 Zk5 ?_
  by_cases h:Ztg (rs.getD k .top) (rs1.getD k .top)=true
  ·rw[h,Bool.true_and]
   simp[-List.getD_eq_getElem?_getD,Ztg]at h
   simp[-List.getD_eq_getElem?_getD,ZeK,show(k:Int)<rs.length by omega,show k<rs.length by omega,show k<rs1.length by omega,h]
   exact⟨by omega,by simpa using ih⟩
  ·rw[(by simpa using h:Ztg (rs.getD k .top) (rs1.getD k .top)=false),Bool.false_and]
   simp only[Ztg,decide_eq_true_eq,not_and]at h
   simp[-List.getD_eq_getElem?_getD,ZeK,show(k:Int)<rs.length by omega,show k<rs.length by omega,show k<rs1.length by omega]
   exact fun h1 h2 h3 h4 h5=>absurd h5 (h h1 h2 h3 h4)
theorem ZHs(hl:ks.length≤1000000∧rs.length≤1000000)(hq:ks.length=ks1.length)(hr:rs.length=rs1.length):∀m k:Nat,k+m=ks.length→Ev C (Zi7 ms ks rs ms1 ks1 rs1 k) (Zgm ms ks rs ms1 ks1 rs1 k) (ZbH 64 (.bool (Zcg eqK (ks.drop k) (ks1.drop k)&&Zcg Ztg rs rs1)) none)
 |0,k,hk=>tgo hC Za8 Zks (by
  have:=ZHZ hC ms ks rs ms1 ks1 rs1 hl.2 hr rs.length 0 (by omega)
  rw[List.drop_of_length_le (by omega),List.drop_of_length_le (by omega)]
  simp[ZeM,show ¬(k:Int)<ks.length by omega,Zcg]
  simpa using this)
 |m+1,k,hk=>by
  have ih:=ZHs hl hq hr m (k+1) (by omega)
  rw[ZjU (show k<ks.length by omega),ZjU (show k<ks1.length by omega),Zcg]
  refine tgo hC Za8 Zks ?_
  by_cases h:eqK (ks.getD k .top) (ks1.getD k .top)=true
  ·rw[h,Bool.true_and]
   simp[-List.getD_eq_getElem?_getD,eqK]at h
   simp[-List.getD_eq_getElem?_getD,ZeM,show(k:Int)<ks.length by omega,show k<ks.length by omega,show k<ks1.length by omega,h]
   exact⟨by omega,by simpa using ih⟩
  ·rw[(by simpa using h:eqK (ks.getD k .top) (ks1.getD k .top)=false),Bool.false_and]
   simp only[eqK,decide_eq_true_eq,not_and]at h
   simp[-List.getD_eq_getElem?_getD,ZeM,show(k:Int)<ks.length by omega,show k<ks.length by omega,show k<ks1.length by omega]
   exact fun h1 h2=>absurd h2 (h h1)
theorem ZHA(hl:ms.length≤1000000∧ks.length≤1000000∧rs.length≤1000000)(hq:ms.length=ms1.length):∀m k:Nat,k+m=ms.length→Ev C (Zgr ms ks rs ms1 ks1 rs1 k) (Zfn ms ks rs ms1 ks1 rs1 k) (ZbH 64 (.bool (Zcg eqT (ms.drop k) (ms1.drop k)&&(Zcg eqK ks ks1&&Zcg Ztg rs rs1))) none)
 |0,k,hk=>tgo hC Za8 Zju (by
  rw[List.drop_of_length_le (by omega),List.drop_of_length_le (by omega)]
  by_cases h1:ks.length=ks1.length
  ·by_cases h2:rs.length=rs1.length
   ·have:=ZHs hC ms ks rs ms1 ks1 rs1 hl.2 h1 h2 ks.length 0 (by omega)
    simp[ZbM,show ¬(k:Int)<ms.length by omega,Zcg,h1,h2]
    simpa using this
   ·simp[ZbM,show ¬(k:Int)<ms.length by omega,Zcg,h1,ZlE h2,show ¬(rs.length:Int)=rs1.length by omega]
  ·simp[ZbM,show ¬(k:Int)<ms.length by omega,Zcg,ZlE h1,show ¬(ks.length:Int)=ks1.length by omega])
 |m+1,k,hk=>by
  have ih:=ZHA hl hq m (k+1) (by omega)
  rw[ZjU (show k<ms.length by omega),ZjU (show k<ms1.length by omega),Zcg]
  refine tgo hC Za8 Zju ?_
  by_cases h:eqT (ms.getD k .top) (ms1.getD k .top)=true
  ·rw[h,Bool.true_and]
   simp[-List.getD_eq_getElem?_getD,eqT]at h
   simp[-List.getD_eq_getElem?_getD,ZbM,show(k:Int)<ms.length by omega,show k<ms.length by omega,show k<ms1.length by omega,h]
   exact⟨by omega,by simpa using ih⟩
  ·rw[(by simpa using h:eqT (ms.getD k .top) (ms1.getD k .top)=false),Bool.false_and]
   simp[-List.getD_eq_getElem?_getD,eqT]at h
   simp[-List.getD_eq_getElem?_getD,ZbM,show(k:Int)<ms.length by omega,show k<ms.length by omega,show k<ms1.length by omega,h]
end
theorem Zs2(ms ks rs ms1 ks1 rs1:List AV)(hg:mG ms ks rs=true):Zat Tryz.prog 64 [.agg (.gen [.list (.big .str ms), .list (.big (.agg [.str, .int .i64]) ks), .list (.big (.agg [.str, .int .i64, .int .i64, .int .i64, .int .i64]) rs)]), .agg (.gen [.list (.big .str ms1), .list (.big (.agg [.str, .int .i64]) ks1), .list (.big (.agg [.str, .int .i64, .int .i64, .int .i64, .int .i64]) rs1)])] (.bool (Zhg ms ks rs ms1 ks1 rs1)) none:=
 start (Zy1 ms ks rs ms1 ks1 rs1) fun C hC=>tgo hC Za8 ZFr (by
  have hl:ms.length≤1000000∧ks.length≤1000000∧rs.length≤1000000:=of_decide_eq_true hg
  unfold Zhg
  by_cases h:ms.length=ms1.length
  ·have:=ZHA hC ms ks rs ms1 ks1 rs1 hl h ms.length 0 (by omega)
   simp[Zzy,h]
   simpa using this
  ·simp[Zzy,ZlE h,show ¬(ms.length:Int)=ms1.length by omega])
def k64:Ctr:=⟨64,0,fun _ a=>match a with |[.agg (.gen [.list (.big .str ms), .list (.big (.agg [.str, .int .i64]) ks), .list (.big (.agg [.str, .int .i64, .int .i64, .int .i64, .int .i64]) rs)]), .agg (.gen [.list (.big .str ms1), .list (.big (.agg [.str, .int .i64]) ks1), .list (.big (.agg [.str, .int .i64, .int .i64, .int .i64, .int .i64]) rs1)])]=>some (decide (mG ms ks rs=true), .bool (Zhg ms ks rs ms1 ks1 rs1),none) |_=>none⟩
theorem ZDs:k64.OK Tryz.prog:=fun pa args r fr h=>by
 simp only[k64]at h
 split at h
 ·simp only[Option.some.injEq,Prod.mk.injEq,decide_eq_true_eq]at h
  obtain⟨h0,rfl,rfl⟩:=h
  exact Zs2 _ _ _ _ _ _ h0
 ·cases h
def Lt3:List Ctr:=[k64]++Lt2
theorem ZEg:Zaw Tryz.prog Lt3:=⟨ZDs,ZBR⟩
end Go.Proofs.YtkeoeooghhjibaaGreatDoor
/- Contracts as a list. No condition. -/
namespace Go.Proofs.YtkeoeooghhjibaaGreatDoor
def kwS(x:AV):List UInt8:=(x.cellAt 0).toS++[32]++Za3 [(x.cellAt 1).toI]
def rwS(x:AV):List UInt8:=(x.cellAt 0).toS++[32]++Za3 [(x.cellAt 1).toI,(x.cellAt 2).toI,(x.cellAt 3).toI,(x.cellAt 4).toI]
def Zbe(ms ks rs:List AV):List UInt8:=Lib.join [Lib.join (ms.map AV.toS) [32],Lib.join (ks.map kwS) [44],Lib.join (rs.map rwS) [44]] [59]
def ZC1(x:AV):Bool:=Zb7 [(x.cellAt 1).toI]
def ZBc(x:AV):Bool:=Zb7 [(x.cellAt 1).toI,(x.cellAt 2).toI,(x.cellAt 3).toI,(x.cellAt 4).toI]
def fmG(ms ks rs:List AV):Bool:=Ztk ms ks rs&&(ks.all ZC1&&rs.all ZBc)
structure FmG (ms ks rs:List AV):Prop where
 n:ms.length≤8∧ks.length≤10∧rs.length≤12
 m:∀x∈ms,x.toS.length≤20
 k:∀x∈ks,(x.cellAt 0).toS.length≤20
 r:∀x∈rs,(x.cellAt 0).toS.length≤20
 ki:∀x∈ks,Zb7 [(x.cellAt 1).toI]=true
 ri:∀x∈rs,Zb7 [(x.cellAt 1).toI,(x.cellAt 2).toI,(x.cellAt 3).toI,(x.cellAt 4).toI]=true
theorem Zoj{ms ks rs:List AV}(h:fmG ms ks rs=true):FmG ms ks rs:=by
 simp only[fmG,Ztk,Bool.and_eq_true,decide_eq_true_eq,List.all_eq_true,ZD7,Zrb,ZC1,ZBc]at h
 obtain⟨⟨h1,h2,h3,h4⟩,h5,h6⟩:=h
 exact⟨h1,h2,h3,h4,h5,h6⟩
theorem ZcN{xs:List Int}(h:Zb7 xs=true):(Za3 xs).length≤176:=by
 unfold Zb7 at h
 simp only[Bool.and_eq_true,decide_eq_true_eq,List.all_eq_true]at h
 have:=ZlI [32] 21 (xs.map Lib.itoa) (by
  intro x hx
  obtain⟨y,hy,rfl⟩:=List.mem_map.1 hx
  exact Zfj y (h.2 y hy))
 rw[List.length_map]at this
 unfold Za3
 exact Nat.le_trans this (Nat.mul_le_mul_right 22 h.1)
theorem ZrS{x:AV}(h:(x.cellAt 0).toS.length≤20)(hi:Zb7 [(x.cellAt 1).toI]=true):(kwS x).length≤200:=by
 have:=ZcN hi
 simp[kwS];omega
theorem Zrq{x:AV}(h:(x.cellAt 0).toS.length≤20)(hi:Zb7 [(x.cellAt 1).toI,(x.cellAt 2).toI,(x.cellAt 3).toI,(x.cellAt 4).toI]=true):(rwS x).length≤200:=by
 have:=ZcN hi
 simp[rwS];omega
theorem ZfP{f:AV→List UInt8}{xs:List AV}{p:List UInt8}{B N:Nat}(hp:p.length=1)(h:∀x∈xs,(f x).length≤B)(hn:xs.length≤N):(Lib.join (xs.map f) p).length≤N*(B+1):=by
 have:=ZlI p B (xs.map f) (by
  intro x hx
  obtain⟨y,hy,rfl⟩:=List.mem_map.1 hx
  exact h y hy)
 rw[List.length_map,hp]at this
 exact Nat.le_trans this (Nat.mul_le_mul_right _ hn)
theorem ZdR(f:AV→List UInt8)(xs:List AV):(xs.map fun x=>AV.str (f x)).map AV.toS=xs.map f:=by
 rw[List.map_map];rfl
theorem Zuw{a b c:List UInt8}(ha:a.length≤168)(hb:b.length≤2010)(hc:c.length≤2412):(Lib.join [a,b,c] [59]).length≤1000000:=by
 simp[Lib.join_cons,Lib.joinTail];omega
section
variable {C:Ctx}(hC:C.P=Tryz.prog)(ms ks rs:List AV)(hg:FmG ms ks rs)
include hC hg
theorem ZIq:∀m k:Nat,k+m=rs.length→0<k→Ev C (Zjr ms ks rs (ks.map fun x=>.str (kwS x)) rs.length k ((rs.take k).map fun x=>.str (rwS x))) (Zge ms ks rs (ks.map fun x=>.str (kwS x)) rs.length k ((rs.take k).map fun x=>.str (rwS x))) (ZbH 60 (.str (Zbe ms ks rs)) none)
 |0,k,hk,_=>tgo hC Za8 ZkA (by
  obtain rfl:k=rs.length:=by omega
  have e1:=ZfP (p:=[32]) rfl hg.m hg.n.1
  have e2:=ZfP (p:=[44]) rfl (fun x hx=>ZrS (hg.k x hx) (hg.ki x hx)) hg.n.2.1
  have e3:=ZfP (p:=[44]) rfl (fun x hx=>Zrq (hg.r x hx) (hg.ri x hx)) hg.n.2.2
  have e4:=Zuw e1 e2 e3
  have hn:=hg.n
  have m1:=ZdR kwS ks
  have m2:=ZdR rwS rs
  simp[-List.map_map,ZgB,m1,m2,AV.toS,AV.bx,Zab,Zbe]
  exact⟨e4,⟨by omega,Nat.le_trans e3 (by decide)⟩,⟨by omega,Nat.le_trans e2 (by decide)⟩,by omega,Nat.le_trans e1 (by decide)⟩)
 |m+1,k,hk,hk0=>by
  have ih:=ZIq m (k+1) (by omega) (by omega)
  have hlt:(k:Int)<rs.length:=by omega
  have hlt2:k<rs.length:=by omega
  have hn:=hg.n
  have hin:=ZaC (d:=AV.top) hlt2
  have h1:=hg.r _ hin
  have h2:=hg.ri _ hin
  have h3:=ZcN h2
  rw[ZaA (d:=AV.top) hlt2,List.map_append,List.map_singleton]at ih
  refine tgo hC Za8 ZkA ?_
  simp[-List.getD_eq_getElem?_getD, -List.map_take,ZgB,hlt,hlt2,h2,AV.bx,Zab]
  exact⟨by omega,by simpa[-List.map_take,rwS]using ih⟩
theorem ZHF:∀m k:Nat,k+m=ks.length→0<k→Ev C (ZiT ms ks rs ks.length k ((ks.take k).map fun x=>.str (kwS x))) (ZgC ms ks rs ks.length k ((ks.take k).map fun x=>.str (kwS x))) (ZbH 60 (.str (Zbe ms ks rs)) none)
 |0,k,hk,hk0=>tgo hC Za8 Zkf (by
  obtain rfl:k=ks.length:=by omega
  have e:Ev C (ZiM ms ks rs (ks.map fun x=>.str (kwS x)) rs.length) (Zgg ms ks rs (ks.map fun x=>.str (kwS x)) rs.length) (ZbH 60 (.str (Zbe ms ks rs)) none):=tgo hC Za8 ZqH (by
   have hn:=hg.n
   by_cases hr:0<rs.length
   ·have hr1:(0:Int)<rs.length:=by omega
    have hin:=ZaC (d:=AV.top) hr
    have h1:=hg.r _ hin
    have h2:=hg.ri _ hin
    have h3:=ZcN h2
    have:=ZIq hC ms ks rs hg (rs.length-1) 1 (by omega) (by omega)
    rw[ZaA (k:=0) (d:=AV.top) hr,List.map_append,List.map_singleton]at this
    simp[-List.getD_eq_getElem?_getD,ZgI,hr,h2,AV.bx,Zab]
    exact⟨by omega,by simpa[rwS]using this⟩
   ·obtain rfl:rs=[]:=List.eq_nil_of_length_eq_zero (by omega)
    have e1:=ZfP (p:=[32]) rfl hg.m hg.n.1
    have e2:=ZfP (p:=[44]) rfl (fun x hx=>ZrS (hg.k x hx) (hg.ki x hx)) hg.n.2.1
    have e4:=Zuw e1 e2 (c:=[]) (by decide)
    have m1:=ZdR kwS ks
    simp[-List.map_map,ZgI,m1,AV.toS,AV.bx,Zab,Zbe,Lib.join_nil]
    exact⟨⟨⟨by omega,Nat.le_trans e2 (by decide)⟩,by omega,Nat.le_trans e1 (by decide)⟩,e4⟩)
  simp[Zgj]
  simpa using e)
 |m+1,k,hk,hk0=>by
  have ih:=ZHF m (k+1) (by omega) (by omega)
  have hlt:(k:Int)<ks.length:=by omega
  have hlt2:k<ks.length:=by omega
  have hn:=hg.n
  have hin:=ZaC (d:=AV.top) hlt2
  have h1:=hg.k _ hin
  have h2:=hg.ki _ hin
  have h3:=ZcN h2
  rw[ZaA (d:=AV.top) hlt2,List.map_append,List.map_singleton]at ih
  refine tgo hC Za8 Zkf ?_
  simp[-List.getD_eq_getElem?_getD, -List.map_take,Zgj,hlt,hlt2,h2,AV.bx,Zab]
  exact⟨by omega,by simpa[-List.map_take,kwS]using ih⟩
theorem ZHP(h0:ks=[]):∀m k:Nat,k+m=rs.length→0<k→Ev C (ZiU ms ks rs rs.length k ((rs.take k).map fun x=>.str (rwS x))) (Zgy ms ks rs rs.length k ((rs.take k).map fun x=>.str (rwS x))) (ZbH 60 (.str (Zbe ms ks rs)) none)
 |0,k,hk,_=>tgo hC Za8 Zkk (by
  obtain rfl:k=rs.length:=by omega
  have e1:=ZfP (p:=[32]) rfl hg.m hg.n.1
  have e3:=ZfP (p:=[44]) rfl (fun x hx=>Zrq (hg.r x hx) (hg.ri x hx)) hg.n.2.2
  have e4:=Zuw e1 (b:=[]) (by decide) e3
  have hn:=hg.n
  have m2:=ZdR rwS rs
  subst h0
  simp[-List.map_map,Zgk,m2,AV.toS,AV.bx,Zab,Zbe,Lib.join_nil]
  exact⟨⟨by omega,Nat.le_trans e1 (by decide)⟩,e4,by omega,Nat.le_trans e3 (by decide)⟩)
 |m+1,k,hk,hk0=>by
  have ih:=ZHP h0 m (k+1) (by omega) (by omega)
  have hlt:(k:Int)<rs.length:=by omega
  have hlt2:k<rs.length:=by omega
  have hn:=hg.n
  have hin:=ZaC (d:=AV.top) hlt2
  have h1:=hg.r _ hin
  have h2:=hg.ri _ hin
  have h3:=ZcN h2
  rw[ZaA (d:=AV.top) hlt2,List.map_append,List.map_singleton]at ih
  refine tgo hC Za8 Zkk ?_
  simp[-List.getD_eq_getElem?_getD, -List.map_take,Zgk,hlt,hlt2,h2,AV.bx,Zab]
  exact⟨by omega,by simpa[-List.map_take,rwS]using ih⟩
theorem ZI7:Ev C (Zi3 ms ks rs ks.length) (Zgq ms ks rs ks.length) (ZbH 60 (.str (Zbe ms ks rs)) none):=tgo hC Za8 Zqd (by
 have hn:=hg.n
 by_cases hr:0<ks.length
 ·have hin:=ZaC (d:=AV.top) hr
  have h1:=hg.k _ hin
  have h2:=hg.ki _ hin
  have h3:=ZcN h2
  have:=ZHF hC ms ks rs hg (ks.length-1) 1 (by omega) (by omega)
  rw[ZaA (k:=0) (d:=AV.top) hr,List.map_append,List.map_singleton]at this
  simp[-List.getD_eq_getElem?_getD,ZgE,hr,h2,AV.bx,Zab]
  exact⟨by omega,by simpa[kwS]using this⟩
 ·obtain rfl:ks=[]:=List.eq_nil_of_length_eq_zero (by omega)
  have e:Ev C (ZiK ms [] rs rs.length) (Zgd ms [] rs rs.length) (ZbH 60 (.str (Zbe ms [] rs)) none):=tgo hC Za8 Zqj (by
   by_cases hr:0<rs.length
   ·have hin:=ZaC (d:=AV.top) hr
    have h1:=hg.r _ hin
    have h2:=hg.ri _ hin
    have h3:=ZcN h2
    have:=ZHP hC ms [] rs hg rfl (rs.length-1) 1 (by omega) (by omega)
    rw[ZaA (k:=0) (d:=AV.top) hr,List.map_append,List.map_singleton]at this
    simp[-List.getD_eq_getElem?_getD,ZgR,hr,h2,AV.bx,Zab]
    exact⟨by omega,by simpa[rwS]using this⟩
   ·obtain rfl:rs=[]:=List.eq_nil_of_length_eq_zero (by omega)
    have e1:=ZfP (p:=[32]) rfl hg.m hg.n.1
    have e4:=Zuw e1 (b:=[]) (c:=[]) (by decide) (by decide)
    simp[-List.map_map,ZgR,AV.toS,AV.bx,Zab,Zbe,Lib.join_nil]
    have e5:=Nat.le_trans e1 (show 8*(20+1)≤1000000 by decide)
    exact⟨⟨by omega,e5⟩,e4⟩)
  simp[ZgE]
  simpa using e)
end
theorem ZnM(ms ks rs:List AV)(hg:fmG ms ks rs=true):Zat Tryz.prog 60 [.agg (.gen [.list (.big .str ms), .list (.big (.agg [.str, .int .i64]) ks), .list (.big (.agg [.str, .int .i64, .int .i64, .int .i64, .int .i64]) rs)])] (.str (Zbe ms ks rs)) none:=
 start (ZwP ms ks rs) fun C hC=>tgo hC Za8 ZGZ (by
  have:=ZI7 hC ms ks rs (Zoj hg)
  simpa[ZBY]using this)
def k60:Ctr:=⟨60,0,fun _ a=>match a with |[.agg (.gen [.list (.big .str ms), .list (.big (.agg [.str, .int .i64]) ks), .list (.big (.agg [.str, .int .i64, .int .i64, .int .i64, .int .i64]) rs)])]=>some (decide (fmG ms ks rs=true), .str (Zbe ms ks rs),none) |_=>none⟩
theorem ZDd:k60.OK Tryz.prog:=fun pa args r fr h=>by
 simp only[k60]at h
 split at h
 ·simp only[Option.some.injEq,Prod.mk.injEq,decide_eq_true_eq]at h
  obtain⟨h0,rfl,rfl⟩:=h
  exact ZnM _ _ _ h0
 ·cases h
def Lt4:List Ctr:=[k60]++Lt3
theorem ZDG:Zaw Tryz.prog Lt4:=⟨ZDd,ZEg⟩
end Go.Proofs.YtkeoeooghhjibaaGreatDoor
/- Contracts as a list. No condition. -/
namespace Go.Proofs.YtkeoeooghhjibaaGreatDoor
theorem ZpP(b:List UInt8)(h:b.length≤1000):Zat Tryz.prog 117 [.nils, .str b] (.str []) none:=
 Zjd (Zhy [] b (jnG_iff.2 ⟨⟨by decide,h⟩,fun x hx=>by cases hx⟩)) ⟨.nil _ rfl, .same _,trivial⟩
def k117z:Ctr:=⟨117,0,fun _ a=>match a with |[.nils, .str b]=>some (decide (b.length≤1000), .str [],none) |_=>none⟩
theorem Zt9:k117z.OK Tryz.prog:=fun pa args r fr h=>by
 simp only[k117z]at h
 split at h
 ·simp only[Option.some.injEq,Prod.mk.injEq,decide_eq_true_eq]at h
  obtain⟨h0,rfl,rfl⟩:=h
  exact ZpP _ h0
 ·cases h
def Lt5:List Ctr:=[k117z]++Lt4
theorem Zez:Zaw Tryz.prog Lt5:=⟨Zt9,ZDG⟩
end Go.Proofs.YtkeoeooghhjibaaGreatDoor
/- Paths of functions, printed by the explorer (Gx). No condition. -/
namespace Go.Proofs.YtkeoeooghhjibaaGreatDoor
set_option maxRecDepth 100000
set_option linter.unusedVariables false
def ZEy(ms ks rs:List AV):AFrame:={ fn:=63,N:=75,env:=[(0,AV.agg (Row.gen [.list (Row.big .str ms), .list (Row.big (.agg [.str, .int .i64]) ks), .list (Row.big (.agg [.str, .int .i64, .int .i64, .int .i64, .int .i64]) rs)]))],todo:=[.code a63.code],defs:=[],rnd:=none,ret:=false,res:=[ARes.tmp 2] }
def ZLq(ms ks rs:List AV):List AFrame:=[(ZEy ms ks rs)]
theorem Zyz(ms ks rs:List AV):ZaB tab 63 [AV.agg (Row.gen [.list (Row.big .str ms), .list (Row.big (.agg [.str, .int .i64]) ks), .list (Row.big (.agg [.str, .int .i64, .int .i64, .int .i64, .int .i64]) rs)])]=some (ZEy ms ks rs):=rfl
def Ziv(ms ks rs:List AV):List AFrame:=[{ fn:=63,N:=75,env:=[(1,AV.ptr 63002 0 0 0),(3,AV.nils),(4,AV.nils),(5,AV.int .i64 0)],todo:=.code (ACode.gh [] ZwL)::ZB5,defs:=[],rnd:=none,ret:=false,res:=[ARes.tmp 2] }]
def ZgW(ms ks rs:List AV):Zaa:=[(63002,{ base:=0,blks:=[Blk.row 26 3 (Row.gen [AV.agg (Row.gen [AV.list (Row.big .str ms),AV.list (Row.big (.agg [.str, .int .i64]) ks),AV.list (Row.big (.agg [.str, .int .i64, .int .i64, .int .i64, .int .i64]) rs)])])] })]
abbrev Zqt(ms ks rs:List AV):List AFrame×Zaa:=(Ziv ms ks rs,ZgW ms ks rs)
def ZjJ(ms ks rs:List AV)(n0:Int)(x1:List AV):List AFrame:=[{ fn:=63,N:=75,env:=[(1,AV.ptr 63002 0 0 0),(3,AV.row 63033 0),(4,AV.nils),(5,AV.int .i64 n0)],todo:=.code (ACode.gh [] ZwL)::ZB5,defs:=[],rnd:=none,ret:=false,res:=[ARes.tmp 2] }]
def Zhi(ms ks rs:List AV)(n0:Int)(x1:List AV):Zaa:=[(63002,{ base:=0,blks:=[Blk.row 26 3 (Row.gen [AV.agg (Row.gen [AV.list (Row.big .str ms),AV.list (Row.big (.agg [.str, .int .i64]) ks),AV.list (Row.big (.agg [.str, .int .i64, .int .i64, .int .i64, .int .i64]) rs)])])] }),(63033,{ base:=0,blks:=[Blk.row 9 1 (Row.big .str x1)] })]
abbrev Zk3(ms ks rs:List AV)(n0:Int)(x1:List AV):List AFrame×Zaa:=(ZjJ ms ks rs n0 x1,Zhi ms ks rs n0 x1)
def ZiX(ms ks rs:List AV):List AFrame:=[{ fn:=63,N:=75,env:=[(1,AV.ptr 63002 0 0 0),(3,AV.nils),(4,AV.nils),(6,AV.int .i64 0)],todo:=.code (ACode.gh [] Zrk)::Zug,defs:=[],rnd:=none,ret:=false,res:=[ARes.tmp 2] }]
def Zhk(ms ks rs:List AV):Zaa:=[(63002,{ base:=0,blks:=[Blk.row 26 3 (Row.gen [AV.agg (Row.gen [AV.list (Row.big .str ms),AV.list (Row.big (.agg [.str, .int .i64]) ks),AV.list (Row.big (.agg [.str, .int .i64, .int .i64, .int .i64, .int .i64]) rs)])])] })]
abbrev Zqn(ms ks rs:List AV):List AFrame×Zaa:=(ZiX ms ks rs,Zhk ms ks rs)
def Ziy(ms ks rs x1:List AV):List AFrame:=[{ fn:=63,N:=75,env:=[(1,AV.ptr 63002 0 0 0),(3,AV.row 63033 0),(4,AV.nils),(6,AV.int .i64 0)],todo:=.code (ACode.gh [] Zrk)::Zug,defs:=[],rnd:=none,ret:=false,res:=[ARes.tmp 2] }]
def Zg2(ms ks rs x1:List AV):Zaa:=[(63002,{ base:=0,blks:=[Blk.row 26 3 (Row.gen [AV.agg (Row.gen [AV.list (Row.big .str ms),AV.list (Row.big (.agg [.str, .int .i64]) ks),AV.list (Row.big (.agg [.str, .int .i64, .int .i64, .int .i64, .int .i64]) rs)])])] }),(63033,{ base:=0,blks:=[Blk.row 9 1 (Row.big .str x1)] })]
abbrev Zq8(ms ks rs x1:List AV):List AFrame×Zaa:=(Ziy ms ks rs x1,Zg2 ms ks rs x1)
def Zjm(ms ks rs:List AV)(n2:Int)(x3:List AV):List AFrame:=[{ fn:=63,N:=75,env:=[(1,AV.ptr 63002 0 0 0),(3,AV.nils),(4,AV.row 63064 0),(6,AV.int .i64 n2)],todo:=.code (ACode.gh [] Zrk)::Zug,defs:=[],rnd:=none,ret:=false,res:=[ARes.tmp 2] }]
def Zhh(ms ks rs:List AV)(n2:Int)(x3:List AV):Zaa:=[(63002,{ base:=0,blks:=[Blk.row 26 3 (Row.gen [AV.agg (Row.gen [AV.list (Row.big .str ms),AV.list (Row.big (.agg [.str, .int .i64]) ks),AV.list (Row.big (.agg [.str, .int .i64, .int .i64, .int .i64, .int .i64]) rs)])])] }),(63064,{ base:=0,blks:=[Blk.row 9 1 (Row.big .str x3)] })]
abbrev ZkB(ms ks rs:List AV)(n2:Int)(x3:List AV):List AFrame×Zaa:=(Zjm ms ks rs n2 x3,Zhh ms ks rs n2 x3)
def Zja(ms ks rs x1:List AV)(n4:Int)(x5:List AV):List AFrame:=[{ fn:=63,N:=75,env:=[(1,AV.ptr 63002 0 0 0),(3,AV.row 63033 0),(4,AV.row 63064 0),(6,AV.int .i64 n4)],todo:=.code (ACode.gh [] Zrk)::Zug,defs:=[],rnd:=none,ret:=false,res:=[ARes.tmp 2] }]
def Zg4(ms ks rs x1:List AV)(n4:Int)(x5:List AV):Zaa:=[(63002,{ base:=0,blks:=[Blk.row 26 3 (Row.gen [AV.agg (Row.gen [AV.list (Row.big .str ms),AV.list (Row.big (.agg [.str, .int .i64]) ks),AV.list (Row.big (.agg [.str, .int .i64, .int .i64, .int .i64, .int .i64]) rs)])])] }),(63033,{ base:=0,blks:=[Blk.row 9 1 (Row.big .str x1)] }),(63064,{ base:=0,blks:=[Blk.row 9 1 (Row.big .str x5)] })]
abbrev ZkU(ms ks rs x1:List AV)(n4:Int)(x5:List AV):List AFrame×Zaa:=(Zja ms ks rs x1 n4 x5,Zg4 ms ks rs x1 n4 x5)
def ZDb(A:Ar)(K:KT)(F:FT)(ms ks rs:List AV):Prop:=K (Zqt (ms) (ks) (rs))
theorem ZFG{A:Ar}{K:KT}{F:FT}{M:MT}{ms ks rs:List AV} :ZaG A tab Lt5 63 K F M (.run 18 (.hd)) (ZLq ms ks rs) []=ZDb A K F ms ks rs:=by kernel_rfl
def Zhb(A:Ar)(K:KT)(F:FT)(ms ks rs:List AV):Prop:=bB (A.lt 0 (A.int (A.lenA ks))) (rB [A.inR .i64 (A.add 0 1),Zae (Nat.ble (A.lenA [AV.str (A.appS (A.appS ((A.nthA ks (A.nat 0)).cellAt 0).toS [32]) (Go.Lib.itoa ((A.nthA ks (A.nat 0)).cellAt 1).toI))]) 4294967296) (Nat.blt 0 (A.lenA [AV.str (A.appS (A.appS ((A.nthA ks (A.nat 0)).cellAt 0).toS [32]) (Go.Lib.itoa ((A.nthA ks (A.nat 0)).cellAt 1).toI))])),List.all [AV.str (A.appS (A.appS ((A.nthA ks (A.nat 0)).cellAt 0).toS [32]) (Go.Lib.itoa ((A.nthA ks (A.nat 0)).cellAt 1).toI))] fun x=>AV.bx x&&Nat.beq (Zab A x) 1,Nat.ble (A.lenS (A.appS ((A.nthA ks (A.nat 0)).cellAt 0).toS [32])+A.lenS (Go.Lib.itoa ((A.nthA ks (A.nat 0)).cellAt 1).toI)) 4294967296,decide (Zfa ((A.nthA ks (A.nat 0)).cellAt 1).toI=true),Zae (Zae (A.le 0 0) (Nat.blt (A.nat 0) (A.lenA ks))) true,Nat.ble (A.lenS ((A.nthA ks (A.nat 0)).cellAt 0).toS+A.lenS [32]) 4294967296,Zae (Zae (A.le 0 0) (Nat.blt (A.nat 0) (A.lenA ks))) true] (K (Zk3 (ms) (ks) (rs) (A.add 0 1) ([AV.str (A.appS (A.appS ((A.nthA ks (A.nat 0)).cellAt 0).toS [32]) (Go.Lib.itoa ((A.nthA ks (A.nat 0)).cellAt 1).toI))])))) (K (Zqn (ms) (ks) (rs)))
theorem Zq9{A:Ar}{K:KT}{F:FT}{M:MT}{ms ks rs:List AV} :ZaG A tab Lt5 63 K F M (.run 10 (.tf (.run 12 (.hd)) (.run 9 (.hd)))) (Ziv ms ks rs) (ZgW ms ks rs)=Zhb A K F ms ks rs:=by kernel_rfl
def ZgU(A:Ar)(K:KT)(F:FT)(ms ks rs:List AV)(n0:Int)(x1:List AV):Prop:=bB (A.lt n0 (A.int (A.lenA ks))) (rB [A.inR .i64 (A.add n0 1),Nat.ble (A.lenA x1+A.lenA [AV.str (A.appS (A.appS ((A.nthA ks (A.nat n0)).cellAt 0).toS [32]) (Go.Lib.itoa ((A.nthA ks (A.nat n0)).cellAt 1).toI))]) 4294967296,List.all [AV.str (A.appS (A.appS ((A.nthA ks (A.nat n0)).cellAt 0).toS [32]) (Go.Lib.itoa ((A.nthA ks (A.nat n0)).cellAt 1).toI))] fun x=>AV.bx x&&Nat.beq (Zab A x) 1,Nat.ble (A.lenS (A.appS ((A.nthA ks (A.nat n0)).cellAt 0).toS [32])+A.lenS (Go.Lib.itoa ((A.nthA ks (A.nat n0)).cellAt 1).toI)) 4294967296,decide (Zfa ((A.nthA ks (A.nat n0)).cellAt 1).toI=true),Zae (Zae (A.le 0 n0) (Nat.blt (A.nat n0) (A.lenA ks))) true,Nat.ble (A.lenS ((A.nthA ks (A.nat n0)).cellAt 0).toS+A.lenS [32]) 4294967296,Zae (Zae (A.le 0 n0) (Nat.blt (A.nat n0) (A.lenA ks))) true] (K (Zk3 (ms) (ks) (rs) (A.add n0 1) (A.appA x1 [AV.str (A.appS (A.appS ((A.nthA ks (A.nat n0)).cellAt 0).toS [32]) (Go.Lib.itoa ((A.nthA ks (A.nat n0)).cellAt 1).toI))])))) (K (Zq8 (ms) (ks) (rs) (x1)))
theorem ZkM{A:Ar}{K:KT}{F:FT}{M:MT}{ms ks rs:List AV}{n0:Int}{x1:List AV} :ZaG A tab Lt5 63 K F M (.run 10 (.tf (.run 12 (.hd)) (.run 9 (.hd)))) (ZjJ ms ks rs n0 x1) (Zhi ms ks rs n0 x1)=ZgU A K F ms ks rs n0 x1:=by kernel_rfl
def Zgx(A:Ar)(K:KT)(F:FT)(ms ks rs:List AV):Prop:=bB (A.lt 0 (A.int (A.lenA rs))) (rB [A.inR .i64 (A.add 0 1),Zae (Nat.ble (A.lenA [AV.str (Go.Lib.join [AV.toS (AV.cellAt (A.nthA rs (A.nat 0)) 0),Go.Lib.itoa ((A.nthA rs (A.nat 0)).cellAt 1).toI,Go.Lib.itoa ((A.nthA rs (A.nat 0)).cellAt 2).toI,Go.Lib.itoa ((A.nthA rs (A.nat 0)).cellAt 3).toI,Go.Lib.itoa ((A.nthA rs (A.nat 0)).cellAt 4).toI] [32])]) 4294967296) (Nat.blt 0 (A.lenA [AV.str (Go.Lib.join [AV.toS (AV.cellAt (A.nthA rs (A.nat 0)) 0),Go.Lib.itoa ((A.nthA rs (A.nat 0)).cellAt 1).toI,Go.Lib.itoa ((A.nthA rs (A.nat 0)).cellAt 2).toI,Go.Lib.itoa ((A.nthA rs (A.nat 0)).cellAt 3).toI,Go.Lib.itoa ((A.nthA rs (A.nat 0)).cellAt 4).toI] [32])])),List.all [AV.str (Go.Lib.join [AV.toS (AV.cellAt (A.nthA rs (A.nat 0)) 0),Go.Lib.itoa ((A.nthA rs (A.nat 0)).cellAt 1).toI,Go.Lib.itoa ((A.nthA rs (A.nat 0)).cellAt 2).toI,Go.Lib.itoa ((A.nthA rs (A.nat 0)).cellAt 3).toI,Go.Lib.itoa ((A.nthA rs (A.nat 0)).cellAt 4).toI] [32])] fun x=>AV.bx x&&Nat.beq (Zab A x) 1,decide (jnG [AV.str ((A.nthA rs (A.nat 0)).cellAt 0).toS,AV.str (Go.Lib.itoa ((A.nthA rs (A.nat 0)).cellAt 1).toI),AV.str (Go.Lib.itoa ((A.nthA rs (A.nat 0)).cellAt 2).toI),AV.str (Go.Lib.itoa ((A.nthA rs (A.nat 0)).cellAt 3).toI),AV.str (Go.Lib.itoa ((A.nthA rs (A.nat 0)).cellAt 4).toI)] [32]=true),List.all [AV.str ((A.nthA rs (A.nat 0)).cellAt 0).toS,AV.str (Go.Lib.itoa ((A.nthA rs (A.nat 0)).cellAt 1).toI),AV.str (Go.Lib.itoa ((A.nthA rs (A.nat 0)).cellAt 2).toI),AV.str (Go.Lib.itoa ((A.nthA rs (A.nat 0)).cellAt 3).toI),AV.str (Go.Lib.itoa ((A.nthA rs (A.nat 0)).cellAt 4).toI)] fun x=>AV.bx x&&Nat.beq (Zab A x) 1,decide (Zfa ((A.nthA rs (A.nat 0)).cellAt 4).toI=true),decide (Zfa ((A.nthA rs (A.nat 0)).cellAt 3).toI=true),decide (Zfa ((A.nthA rs (A.nat 0)).cellAt 2).toI=true),decide (Zfa ((A.nthA rs (A.nat 0)).cellAt 1).toI=true),Zae (Zae (A.le 0 0) (Nat.blt (A.nat 0) (A.lenA rs))) true] (K (ZkB (ms) (ks) (rs) (A.add 0 1) ([AV.str (Go.Lib.join [AV.toS (AV.cellAt (A.nthA rs (A.nat 0)) 0),Go.Lib.itoa ((A.nthA rs (A.nat 0)).cellAt 1).toI,Go.Lib.itoa ((A.nthA rs (A.nat 0)).cellAt 2).toI,Go.Lib.itoa ((A.nthA rs (A.nat 0)).cellAt 3).toI,Go.Lib.itoa ((A.nthA rs (A.nat 0)).cellAt 4).toI] [32])])))) (rB [Nat.ble (A.lenS (A.appS (A.appS (A.appS (Go.Lib.join (List.map AV.toS ms) [32]) [59]) []) [59])+A.lenS []) 4294967296,Nat.ble (A.lenS (A.appS (A.appS (Go.Lib.join (List.map AV.toS ms) [32]) [59]) [])+A.lenS [59]) 4294967296,Nat.ble (A.lenS (A.appS (Go.Lib.join (List.map AV.toS ms) [32]) [59])+A.lenS []) 4294967296,Nat.ble (A.lenS (Go.Lib.join (List.map AV.toS ms) [32])+A.lenS [59]) 4294967296,decide (jnG ms [32]=true)] (F (AV.str (A.appS (A.appS (A.appS (A.appS (Go.Lib.join (List.map AV.toS ms) [32]) [59]) []) [59]) [])) (none)))
theorem Zqs{A:Ar}{K:KT}{F:FT}{M:MT}{ms ks rs:List AV} :ZaG A tab Lt5 63 K F M (.run 10 (.tf (.run 22 (.hd)) (.run 18 (.fn)))) (ZiX ms ks rs) (Zhk ms ks rs)=Zgx A K F ms ks rs:=by kernel_rfl
def ZgK(A:Ar)(K:KT)(F:FT)(ms ks rs x1:List AV):Prop:=bB (A.lt 0 (A.int (A.lenA rs))) (rB [A.inR .i64 (A.add 0 1),Zae (Nat.ble (A.lenA [AV.str (Go.Lib.join [AV.toS (AV.cellAt (A.nthA rs (A.nat 0)) 0),Go.Lib.itoa ((A.nthA rs (A.nat 0)).cellAt 1).toI,Go.Lib.itoa ((A.nthA rs (A.nat 0)).cellAt 2).toI,Go.Lib.itoa ((A.nthA rs (A.nat 0)).cellAt 3).toI,Go.Lib.itoa ((A.nthA rs (A.nat 0)).cellAt 4).toI] [32])]) 4294967296) (Nat.blt 0 (A.lenA [AV.str (Go.Lib.join [AV.toS (AV.cellAt (A.nthA rs (A.nat 0)) 0),Go.Lib.itoa ((A.nthA rs (A.nat 0)).cellAt 1).toI,Go.Lib.itoa ((A.nthA rs (A.nat 0)).cellAt 2).toI,Go.Lib.itoa ((A.nthA rs (A.nat 0)).cellAt 3).toI,Go.Lib.itoa ((A.nthA rs (A.nat 0)).cellAt 4).toI] [32])])),List.all [AV.str (Go.Lib.join [AV.toS (AV.cellAt (A.nthA rs (A.nat 0)) 0),Go.Lib.itoa ((A.nthA rs (A.nat 0)).cellAt 1).toI,Go.Lib.itoa ((A.nthA rs (A.nat 0)).cellAt 2).toI,Go.Lib.itoa ((A.nthA rs (A.nat 0)).cellAt 3).toI,Go.Lib.itoa ((A.nthA rs (A.nat 0)).cellAt 4).toI] [32])] fun x=>AV.bx x&&Nat.beq (Zab A x) 1,decide (jnG [AV.str ((A.nthA rs (A.nat 0)).cellAt 0).toS,AV.str (Go.Lib.itoa ((A.nthA rs (A.nat 0)).cellAt 1).toI),AV.str (Go.Lib.itoa ((A.nthA rs (A.nat 0)).cellAt 2).toI),AV.str (Go.Lib.itoa ((A.nthA rs (A.nat 0)).cellAt 3).toI),AV.str (Go.Lib.itoa ((A.nthA rs (A.nat 0)).cellAt 4).toI)] [32]=true),List.all [AV.str ((A.nthA rs (A.nat 0)).cellAt 0).toS,AV.str (Go.Lib.itoa ((A.nthA rs (A.nat 0)).cellAt 1).toI),AV.str (Go.Lib.itoa ((A.nthA rs (A.nat 0)).cellAt 2).toI),AV.str (Go.Lib.itoa ((A.nthA rs (A.nat 0)).cellAt 3).toI),AV.str (Go.Lib.itoa ((A.nthA rs (A.nat 0)).cellAt 4).toI)] fun x=>AV.bx x&&Nat.beq (Zab A x) 1,decide (Zfa ((A.nthA rs (A.nat 0)).cellAt 4).toI=true),decide (Zfa ((A.nthA rs (A.nat 0)).cellAt 3).toI=true),decide (Zfa ((A.nthA rs (A.nat 0)).cellAt 2).toI=true),decide (Zfa ((A.nthA rs (A.nat 0)).cellAt 1).toI=true),Zae (Zae (A.le 0 0) (Nat.blt (A.nat 0) (A.lenA rs))) true] (K (ZkU (ms) (ks) (rs) (x1) (A.add 0 1) ([AV.str (Go.Lib.join [AV.toS (AV.cellAt (A.nthA rs (A.nat 0)) 0),Go.Lib.itoa ((A.nthA rs (A.nat 0)).cellAt 1).toI,Go.Lib.itoa ((A.nthA rs (A.nat 0)).cellAt 2).toI,Go.Lib.itoa ((A.nthA rs (A.nat 0)).cellAt 3).toI,Go.Lib.itoa ((A.nthA rs (A.nat 0)).cellAt 4).toI] [32])])))) (rB [Nat.ble (A.lenS (A.appS (A.appS (A.appS (Go.Lib.join (List.map AV.toS ms) [32]) [59]) (Go.Lib.join (List.map AV.toS x1) [44])) [59])+A.lenS []) 4294967296,Nat.ble (A.lenS (A.appS (A.appS (Go.Lib.join (List.map AV.toS ms) [32]) [59]) (Go.Lib.join (List.map AV.toS x1) [44]))+A.lenS [59]) 4294967296,Nat.ble (A.lenS (A.appS (Go.Lib.join (List.map AV.toS ms) [32]) [59])+A.lenS (Go.Lib.join (List.map AV.toS x1) [44])) 4294967296,decide (jnG x1 [44]=true),Nat.ble (A.lenS (Go.Lib.join (List.map AV.toS ms) [32])+A.lenS [59]) 4294967296,decide (jnG ms [32]=true)] (F (AV.str (A.appS (A.appS (A.appS (A.appS (Go.Lib.join (List.map AV.toS ms) [32]) [59]) (Go.Lib.join (List.map AV.toS x1) [44])) [59]) [])) (none)))
theorem Zq2{A:Ar}{K:KT}{F:FT}{M:MT}{ms ks rs x1:List AV} :ZaG A tab Lt5 63 K F M (.run 10 (.tf (.run 22 (.hd)) (.run 18 (.fn)))) (Ziy ms ks rs x1) (Zg2 ms ks rs x1)=ZgK A K F ms ks rs x1:=by kernel_rfl
def Zgo(A:Ar)(K:KT)(F:FT)(ms ks rs:List AV)(n2:Int)(x3:List AV):Prop:=bB (A.lt n2 (A.int (A.lenA rs))) (rB [A.inR .i64 (A.add n2 1),Nat.ble (A.lenA x3+A.lenA [AV.str (Go.Lib.join [AV.toS (AV.cellAt (A.nthA rs (A.nat n2)) 0),Go.Lib.itoa ((A.nthA rs (A.nat n2)).cellAt 1).toI,Go.Lib.itoa ((A.nthA rs (A.nat n2)).cellAt 2).toI,Go.Lib.itoa ((A.nthA rs (A.nat n2)).cellAt 3).toI,Go.Lib.itoa ((A.nthA rs (A.nat n2)).cellAt 4).toI] [32])]) 4294967296,List.all [AV.str (Go.Lib.join [AV.toS (AV.cellAt (A.nthA rs (A.nat n2)) 0),Go.Lib.itoa ((A.nthA rs (A.nat n2)).cellAt 1).toI,Go.Lib.itoa ((A.nthA rs (A.nat n2)).cellAt 2).toI,Go.Lib.itoa ((A.nthA rs (A.nat n2)).cellAt 3).toI,Go.Lib.itoa ((A.nthA rs (A.nat n2)).cellAt 4).toI] [32])] fun x=>AV.bx x&&Nat.beq (Zab A x) 1,decide (jnG [AV.str ((A.nthA rs (A.nat n2)).cellAt 0).toS,AV.str (Go.Lib.itoa ((A.nthA rs (A.nat n2)).cellAt 1).toI),AV.str (Go.Lib.itoa ((A.nthA rs (A.nat n2)).cellAt 2).toI),AV.str (Go.Lib.itoa ((A.nthA rs (A.nat n2)).cellAt 3).toI),AV.str (Go.Lib.itoa ((A.nthA rs (A.nat n2)).cellAt 4).toI)] [32]=true),List.all [AV.str ((A.nthA rs (A.nat n2)).cellAt 0).toS,AV.str (Go.Lib.itoa ((A.nthA rs (A.nat n2)).cellAt 1).toI),AV.str (Go.Lib.itoa ((A.nthA rs (A.nat n2)).cellAt 2).toI),AV.str (Go.Lib.itoa ((A.nthA rs (A.nat n2)).cellAt 3).toI),AV.str (Go.Lib.itoa ((A.nthA rs (A.nat n2)).cellAt 4).toI)] fun x=>AV.bx x&&Nat.beq (Zab A x) 1,decide (Zfa ((A.nthA rs (A.nat n2)).cellAt 4).toI=true),decide (Zfa ((A.nthA rs (A.nat n2)).cellAt 3).toI=true),decide (Zfa ((A.nthA rs (A.nat n2)).cellAt 2).toI=true),decide (Zfa ((A.nthA rs (A.nat n2)).cellAt 1).toI=true),Zae (Zae (A.le 0 n2) (Nat.blt (A.nat n2) (A.lenA rs))) true] (K (ZkB (ms) (ks) (rs) (A.add n2 1) (A.appA x3 [AV.str (Go.Lib.join [AV.toS (AV.cellAt (A.nthA rs (A.nat n2)) 0),Go.Lib.itoa ((A.nthA rs (A.nat n2)).cellAt 1).toI,Go.Lib.itoa ((A.nthA rs (A.nat n2)).cellAt 2).toI,Go.Lib.itoa ((A.nthA rs (A.nat n2)).cellAt 3).toI,Go.Lib.itoa ((A.nthA rs (A.nat n2)).cellAt 4).toI] [32])])))) (rB [Nat.ble (A.lenS (A.appS (A.appS (A.appS (Go.Lib.join (List.map AV.toS ms) [32]) [59]) []) [59])+A.lenS (Go.Lib.join (List.map AV.toS x3) [44])) 4294967296,decide (jnG x3 [44]=true),Nat.ble (A.lenS (A.appS (A.appS (Go.Lib.join (List.map AV.toS ms) [32]) [59]) [])+A.lenS [59]) 4294967296,Nat.ble (A.lenS (A.appS (Go.Lib.join (List.map AV.toS ms) [32]) [59])+A.lenS []) 4294967296,Nat.ble (A.lenS (Go.Lib.join (List.map AV.toS ms) [32])+A.lenS [59]) 4294967296,decide (jnG ms [32]=true)] (F (AV.str (A.appS (A.appS (A.appS (A.appS (Go.Lib.join (List.map AV.toS ms) [32]) [59]) []) [59]) (Go.Lib.join (List.map AV.toS x3) [44]))) (none)))
theorem ZkI{A:Ar}{K:KT}{F:FT}{M:MT}{ms ks rs:List AV}{n2:Int}{x3:List AV} :ZaG A tab Lt5 63 K F M (.run 10 (.tf (.run 22 (.hd)) (.run 18 (.fn)))) (Zjm ms ks rs n2 x3) (Zhh ms ks rs n2 x3)=Zgo A K F ms ks rs n2 x3:=by kernel_rfl
def Zgc(A:Ar)(K:KT)(F:FT)(ms ks rs x1:List AV)(n4:Int)(x5:List AV):Prop:=bB (A.lt n4 (A.int (A.lenA rs))) (rB [A.inR .i64 (A.add n4 1),Nat.ble (A.lenA x5+A.lenA [AV.str (Go.Lib.join [AV.toS (AV.cellAt (A.nthA rs (A.nat n4)) 0),Go.Lib.itoa ((A.nthA rs (A.nat n4)).cellAt 1).toI,Go.Lib.itoa ((A.nthA rs (A.nat n4)).cellAt 2).toI,Go.Lib.itoa ((A.nthA rs (A.nat n4)).cellAt 3).toI,Go.Lib.itoa ((A.nthA rs (A.nat n4)).cellAt 4).toI] [32])]) 4294967296,List.all [AV.str (Go.Lib.join [AV.toS (AV.cellAt (A.nthA rs (A.nat n4)) 0),Go.Lib.itoa ((A.nthA rs (A.nat n4)).cellAt 1).toI,Go.Lib.itoa ((A.nthA rs (A.nat n4)).cellAt 2).toI,Go.Lib.itoa ((A.nthA rs (A.nat n4)).cellAt 3).toI,Go.Lib.itoa ((A.nthA rs (A.nat n4)).cellAt 4).toI] [32])] fun x=>AV.bx x&&Nat.beq (Zab A x) 1,decide (jnG [AV.str ((A.nthA rs (A.nat n4)).cellAt 0).toS,AV.str (Go.Lib.itoa ((A.nthA rs (A.nat n4)).cellAt 1).toI),AV.str (Go.Lib.itoa ((A.nthA rs (A.nat n4)).cellAt 2).toI),AV.str (Go.Lib.itoa ((A.nthA rs (A.nat n4)).cellAt 3).toI),AV.str (Go.Lib.itoa ((A.nthA rs (A.nat n4)).cellAt 4).toI)] [32]=true),List.all [AV.str ((A.nthA rs (A.nat n4)).cellAt 0).toS,AV.str (Go.Lib.itoa ((A.nthA rs (A.nat n4)).cellAt 1).toI),AV.str (Go.Lib.itoa ((A.nthA rs (A.nat n4)).cellAt 2).toI),AV.str (Go.Lib.itoa ((A.nthA rs (A.nat n4)).cellAt 3).toI),AV.str (Go.Lib.itoa ((A.nthA rs (A.nat n4)).cellAt 4).toI)] fun x=>AV.bx x&&Nat.beq (Zab A x) 1,decide (Zfa ((A.nthA rs (A.nat n4)).cellAt 4).toI=true),decide (Zfa ((A.nthA rs (A.nat n4)).cellAt 3).toI=true),decide (Zfa ((A.nthA rs (A.nat n4)).cellAt 2).toI=true),decide (Zfa ((A.nthA rs (A.nat n4)).cellAt 1).toI=true),Zae (Zae (A.le 0 n4) (Nat.blt (A.nat n4) (A.lenA rs))) true] (K (ZkU (ms) (ks) (rs) (x1) (A.add n4 1) (A.appA x5 [AV.str (Go.Lib.join [AV.toS (AV.cellAt (A.nthA rs (A.nat n4)) 0),Go.Lib.itoa ((A.nthA rs (A.nat n4)).cellAt 1).toI,Go.Lib.itoa ((A.nthA rs (A.nat n4)).cellAt 2).toI,Go.Lib.itoa ((A.nthA rs (A.nat n4)).cellAt 3).toI,Go.Lib.itoa ((A.nthA rs (A.nat n4)).cellAt 4).toI] [32])])))) (rB [Nat.ble (A.lenS (A.appS (A.appS (A.appS (Go.Lib.join (List.map AV.toS ms) [32]) [59]) (Go.Lib.join (List.map AV.toS x1) [44])) [59])+A.lenS (Go.Lib.join (List.map AV.toS x5) [44])) 4294967296,decide (jnG x5 [44]=true),Nat.ble (A.lenS (A.appS (A.appS (Go.Lib.join (List.map AV.toS ms) [32]) [59]) (Go.Lib.join (List.map AV.toS x1) [44]))+A.lenS [59]) 4294967296,Nat.ble (A.lenS (A.appS (Go.Lib.join (List.map AV.toS ms) [32]) [59])+A.lenS (Go.Lib.join (List.map AV.toS x1) [44])) 4294967296,decide (jnG x1 [44]=true),Nat.ble (A.lenS (Go.Lib.join (List.map AV.toS ms) [32])+A.lenS [59]) 4294967296,decide (jnG ms [32]=true)] (F (AV.str (A.appS (A.appS (A.appS (A.appS (Go.Lib.join (List.map AV.toS ms) [32]) [59]) (Go.Lib.join (List.map AV.toS x1) [44])) [59]) (Go.Lib.join (List.map AV.toS x5) [44]))) (none)))
theorem Zka{A:Ar}{K:KT}{F:FT}{M:MT}{ms ks rs x1:List AV}{n4:Int}{x5:List AV} :ZaG A tab Lt5 63 K F M (.run 10 (.tf (.run 22 (.hd)) (.run 18 (.fn)))) (Zja ms ks rs x1 n4 x5) (Zg4 ms ks rs x1 n4 x5)=Zgc A K F ms ks rs x1 n4 x5:=by kernel_rfl
end Go.Proofs.YtkeoeooghhjibaaGreatDoor
/- Contracts as a list. No condition. -/
namespace Go.Proofs.YtkeoeooghhjibaaGreatDoor
theorem Ztd(x:AV):kwS x=(x.cellAt 0).toS++[32]++Lib.itoa (x.cellAt 1).toI:=by unfold kwS;rw[ZEK]
theorem Zni(x:AV):rwS x=Lib.join [(x.cellAt 0).toS,Lib.itoa (x.cellAt 1).toI,Lib.itoa (x.cellAt 2).toI,Lib.itoa (x.cellAt 3).toI,Lib.itoa (x.cellAt 4).toI] [32]:=by
 simp[rwS,Za3,Lib.join_cons,Lib.joinTail]
theorem ZlX(ms ks rs:List AV):Zbe ms ks rs=Lib.join (ms.map AV.toS) [32]++[59]++Lib.join (ks.map kwS) [44]++[59]++Lib.join (rs.map rwS) [44]:=by
 simp[Zbe,Lib.join_cons,Lib.joinTail]
theorem ZjF{xs:List Int}(h:Zb7 xs=true):∀x∈xs,Zfa x=true:=by
 unfold Zb7 at h
 simp only[Bool.and_eq_true,List.all_eq_true]at h
 exact h.2
theorem Zwa{f:AV→List UInt8}{xs:List AV}{b:UInt8}(hn:xs.length≤1000)(h:∀x∈xs,(f x).length≤200):jnG (xs.map fun x=>.str (f x)) [b]=true:=
 jnG_iff.2 ⟨⟨by simpa using hn,by simp⟩,fun x hx=>by
  obtain⟨y,hy,rfl⟩:=List.mem_map.1 hx
  exact Nat.le_trans (h y hy) (by decide)⟩
section
variable {C:Ctx}(hC:C.P=Tryz.prog)(ms ks rs:List AV)(hg:FmG ms ks rs)
theorem ZFe{x:AV}(h:(x.cellAt 0).toS.length≤20)(hi:Zb7 [(x.cellAt 1).toI,(x.cellAt 2).toI,(x.cellAt 3).toI,(x.cellAt 4).toI]=true):jnG [.str (x.cellAt 0).toS, .str (Lib.itoa (x.cellAt 1).toI), .str (Lib.itoa (x.cellAt 2).toI), .str (Lib.itoa (x.cellAt 3).toI), .str (Lib.itoa (x.cellAt 4).toI)] [32]=true:=by
 have hb:=ZjF hi
 have a1:=Zfj _ (hb _ (by simp:(x.cellAt 1).toI∈_))
 have a2:=Zfj _ (hb _ (by simp:(x.cellAt 2).toI∈_))
 have a3:=Zfj _ (hb _ (by simp:(x.cellAt 3).toI∈_))
 have a4:=Zfj _ (hb _ (by simp:(x.cellAt 4).toI∈_))
 refine jnG_iff.2 ⟨⟨by simp,by simp⟩,fun y hy=>?_⟩
 simp only[List.mem_cons,List.not_mem_nil,or_false]at hy
 rcases hy with rfl |rfl |rfl |rfl |rfl
 ·exact Nat.le_trans h (by decide)
 ·exact Nat.le_trans a1 (by decide)
 ·exact Nat.le_trans a2 (by decide)
 ·exact Nat.le_trans a3 (by decide)
 ·exact Nat.le_trans a4 (by decide)
include hg
theorem Ztr:jnG ms [32]=true:=jnG_iff.2 ⟨⟨by have:=hg.n;omega,by simp⟩,fun x hx=>Nat.le_trans (hg.m x hx) (by decide)⟩
theorem ZD1:jnG (ks.map fun x=>.str (kwS x)) [44]=true:=Zwa (by have:=hg.n;omega) fun x hx=>ZrS (hg.k x hx) (hg.ki x hx)
theorem ZCk:jnG (rs.map fun x=>.str (rwS x)) [44]=true:=Zwa (by have:=hg.n;omega) fun x hx=>Zrq (hg.r x hx) (hg.ri x hx)
theorem Zlu:(Lib.join (ms.map AV.toS) [32]).length≤168∧(Lib.join (ks.map kwS) [44]).length≤2010∧(Lib.join (rs.map rwS) [44]).length≤2412:=
 ⟨ZfP (p:=[32]) rfl hg.m hg.n.1,ZfP (p:=[44]) rfl (fun x hx=>ZrS (hg.k x hx) (hg.ki x hx)) hg.n.2.1,ZfP (p:=[44]) rfl (fun x hx=>Zrq (hg.r x hx) (hg.ri x hx)) hg.n.2.2⟩
include hC
theorem ZH4:∀m k:Nat,k+m=rs.length→Ev C (Zja ms ks rs (ks.map fun x=>.str (kwS x)) k ((rs.take k).map fun x=>.str (rwS x))) (Zg4 ms ks rs (ks.map fun x=>.str (kwS x)) k ((rs.take k).map fun x=>.str (rwS x))) (ZbH 63 (.str (Zbe ms ks rs)) none)
 |0,k,hk=>tgo hC Zez Zka (by
  obtain rfl:k=rs.length:=by omega
  obtain⟨e1,e2,e3⟩:=Zlu ms ks rs hg
  have j1:=Ztr ms ks rs hg
  have j2:=ZD1 ms ks rs hg
  have j3:=ZCk ms ks rs hg
  have m1:=ZdR kwS ks
  have m2:=ZdR rwS rs
  rw[ZlX]
  simp[-List.map_map,Zgc,m1,m2,j1,j2,j3]
  omega)
 |m+1,k,hk=>by
  have ih:=ZH4 m (k+1) (by omega)
  have hlt:(k:Int)<rs.length:=by omega
  have hlt2:k<rs.length:=by omega
  have hn:=hg.n
  have hin:=ZaC (d:=AV.top) hlt2
  have h1:=hg.r _ hin
  have h2:=hg.ri _ hin
  have h3:=ZFe h1 h2
  have h4:=ZjF h2
  have b1:=h4 ((rs.getD k .top).cellAt 1).toI (by simp)
  have b2:=h4 ((rs.getD k .top).cellAt 2).toI (by simp)
  have b3:=h4 ((rs.getD k .top).cellAt 3).toI (by simp)
  have b4:=h4 ((rs.getD k .top).cellAt 4).toI (by simp)
  rw[ZaA (d:=AV.top) hlt2,List.map_append,List.map_singleton,Zni (rs.getD k AV.top)]at ih
  refine tgo hC Zez Zka ?_
  simp[-List.getD_eq_getElem?_getD, -List.map_take,Zgc,hlt,hlt2,h3,b1,b2,b3,b4,AV.bx,Zab]
  exact⟨by omega,by simpa[-List.map_take]using ih⟩
theorem ZIs(h0:ks=[]):∀m k:Nat,k+m=rs.length→Ev C (Zjm ms ks rs k ((rs.take k).map fun x=>.str (rwS x))) (Zhh ms ks rs k ((rs.take k).map fun x=>.str (rwS x))) (ZbH 63 (.str (Zbe ms ks rs)) none)
 |0,k,hk=>tgo hC Zez ZkI (by
  obtain rfl:k=rs.length:=by omega
  obtain⟨e1,e2,e3⟩:=Zlu ms ks rs hg
  have j1:=Ztr ms ks rs hg
  have j3:=ZCk ms ks rs hg
  have m2:=ZdR rwS rs
  rw[ZlX]
  subst h0
  simp[-List.map_map,Zgo,m2,j1,j3,Lib.join_nil]
  omega)
 |m+1,k,hk=>by
  have ih:=ZIs h0 m (k+1) (by omega)
  have hlt:(k:Int)<rs.length:=by omega
  have hlt2:k<rs.length:=by omega
  have hn:=hg.n
  have hin:=ZaC (d:=AV.top) hlt2
  have h1:=hg.r _ hin
  have h2:=hg.ri _ hin
  have h3:=ZFe h1 h2
  have h4:=ZjF h2
  have b1:=h4 ((rs.getD k .top).cellAt 1).toI (by simp)
  have b2:=h4 ((rs.getD k .top).cellAt 2).toI (by simp)
  have b3:=h4 ((rs.getD k .top).cellAt 3).toI (by simp)
  have b4:=h4 ((rs.getD k .top).cellAt 4).toI (by simp)
  rw[ZaA (d:=AV.top) hlt2,List.map_append,List.map_singleton,Zni (rs.getD k AV.top)]at ih
  refine tgo hC Zez ZkI ?_
  simp[-List.getD_eq_getElem?_getD, -List.map_take,Zgo,hlt,hlt2,h3,b1,b2,b3,b4,AV.bx,Zab]
  exact⟨by omega,by simpa[-List.map_take]using ih⟩
theorem ZJJ:Ev C (Ziy ms ks rs (ks.map fun x=>.str (kwS x))) (Zg2 ms ks rs (ks.map fun x=>.str (kwS x))) (ZbH 63 (.str (Zbe ms ks rs)) none):=tgo hC Zez Zq2 (by
 by_cases hr:0<rs.length
 ·have this:=ZH4 hC ms ks rs hg (rs.length-1) 1 (by omega)
  have hn:=hg.n
  have hin:=ZaC (d:=AV.top) hr
  have h1:=hg.r _ hin
  have h2:=hg.ri _ hin
  have h3:=ZFe h1 h2
  have h4:=ZjF h2
  have b1:=h4 ((rs.getD 0 .top).cellAt 1).toI (by simp)
  have b2:=h4 ((rs.getD 0 .top).cellAt 2).toI (by simp)
  have b3:=h4 ((rs.getD 0 .top).cellAt 3).toI (by simp)
  have b4:=h4 ((rs.getD 0 .top).cellAt 4).toI (by simp)
  rw[ZaA (k:=0) (d:=AV.top) hr,List.map_append,List.map_singleton,Zni (rs.getD 0 AV.top)]at this
  simp[-List.getD_eq_getElem?_getD,ZgK,hr,h3,b1,b2,b3,b4,AV.bx,Zab]
  simpa using this
 ·obtain rfl:rs=[]:=List.eq_nil_of_length_eq_zero (by omega)
  obtain⟨e1,e2,e3⟩:=Zlu ms ks [] hg
  have j1:=Ztr ms ks [] hg
  have j2:=ZD1 ms ks [] hg
  have m1:=ZdR kwS ks
  rw[ZlX]
  simp[-List.map_map,ZgK,m1,j1,j2,Lib.join_nil]
  omega)
theorem ZIc:∀m k:Nat,k+m=ks.length→Ev C (ZjJ ms ks rs k ((ks.take k).map fun x=>.str (kwS x))) (Zhi ms ks rs k ((ks.take k).map fun x=>.str (kwS x))) (ZbH 63 (.str (Zbe ms ks rs)) none)
 |0,k,hk=>tgo hC Zez ZkM (by
  obtain rfl:k=ks.length:=by omega
  have e:=ZJJ hC ms ks rs hg
  simp[ZgU]
  simpa using e)
 |m+1,k,hk=>by
  have ih:=ZIc m (k+1) (by omega)
  have hlt:(k:Int)<ks.length:=by omega
  have hlt2:k<ks.length:=by omega
  have hn:=hg.n
  have hin:=ZaC (d:=AV.top) hlt2
  have h1:=hg.k _ hin
  have h2:=hg.ki _ hin
  have h4:=ZjF h2
  have b1:=h4 ((ks.getD k .top).cellAt 1).toI (by simp)
  have b2:=Zfj _ b1
  rw[ZaA (d:=AV.top) hlt2,List.map_append,List.map_singleton,Ztd (ks.getD k AV.top)]at ih
  refine tgo hC Zez ZkM ?_
  simp[-List.getD_eq_getElem?_getD, -List.map_take,ZgU,hlt,hlt2,b1,AV.bx,Zab]
  exact⟨by omega,by simpa[-List.map_take]using ih⟩
theorem ZMi:Ev C (Ziv ms ks rs) (ZgW ms ks rs) (ZbH 63 (.str (Zbe ms ks rs)) none):=tgo hC Zez Zq9 (by
 have hn:=hg.n
 by_cases hr:0<ks.length
 ·have hin:=ZaC (d:=AV.top) hr
  have h1:=hg.k _ hin
  have h2:=hg.ki _ hin
  have h4:=ZjF h2
  have b1:=h4 ((ks.getD 0 .top).cellAt 1).toI (by simp)
  have b2:=Zfj _ b1
  have:=ZIc hC ms ks rs hg (ks.length-1) 1 (by omega)
  rw[ZaA (k:=0) (d:=AV.top) hr,List.map_append,List.map_singleton,Ztd (ks.getD 0 AV.top)]at this
  simp[-List.getD_eq_getElem?_getD,Zhb,hr,b1,AV.bx,Zab]
  exact⟨by omega,by simpa using this⟩
 ·obtain rfl:ks=[]:=List.eq_nil_of_length_eq_zero (by omega)
  have e:Ev C (ZiX ms [] rs) (Zhk ms [] rs) (ZbH 63 (.str (Zbe ms [] rs)) none):=tgo hC Zez Zqs (by
   by_cases hr:0<rs.length
   ·have this:=ZIs hC ms [] rs hg rfl (rs.length-1) 1 (by omega)
    have hn:=hg.n
    have hin:=ZaC (d:=AV.top) hr
    have h1:=hg.r _ hin
    have h2:=hg.ri _ hin
    have h3:=ZFe h1 h2
    have h4:=ZjF h2
    have b1:=h4 ((rs.getD 0 .top).cellAt 1).toI (by simp)
    have b2:=h4 ((rs.getD 0 .top).cellAt 2).toI (by simp)
    have b3:=h4 ((rs.getD 0 .top).cellAt 3).toI (by simp)
    have b4:=h4 ((rs.getD 0 .top).cellAt 4).toI (by simp)
    rw[ZaA (k:=0) (d:=AV.top) hr,List.map_append,List.map_singleton,Zni (rs.getD 0 AV.top)]at this
    simp[-List.getD_eq_getElem?_getD,Zgx,hr,h3,b1,b2,b3,b4,AV.bx,Zab]
    simpa using this
   ·obtain rfl:rs=[]:=List.eq_nil_of_length_eq_zero (by omega)
    obtain⟨e1,e2,e3⟩:=Zlu ms [] [] hg
    have j1:=Ztr ms [] [] hg
    rw[ZlX]
    simp[-List.map_map,Zgx,j1,Lib.join_nil]
    omega)
  simp[Zhb]
  simpa using e)
end
theorem Zov(ms ks rs:List AV)(hg:fmG ms ks rs=true):Zat Tryz.prog 63 [.agg (.gen [.list (.big .str ms), .list (.big (.agg [.str, .int .i64]) ks), .list (.big (.agg [.str, .int .i64, .int .i64, .int .i64, .int .i64]) rs)])] (.str (Zbe ms ks rs)) none:=
 start (Zyz ms ks rs) fun C hC=>tgo hC Zez ZFG (by
  have:=ZMi hC ms ks rs (Zoj hg)
  simpa[ZDb]using this)
def k63:Ctr:=⟨63,0,fun _ a=>match a with |[.agg (.gen [.list (.big .str ms), .list (.big (.agg [.str, .int .i64]) ks), .list (.big (.agg [.str, .int .i64, .int .i64, .int .i64, .int .i64]) rs)])]=>some (decide (fmG ms ks rs=true), .str (Zbe ms ks rs),none) |_=>none⟩
theorem ZAq:k63.OK Tryz.prog:=fun pa args r fr h=>by
 simp only[k63]at h
 split at h
 ·simp only[Option.some.injEq,Prod.mk.injEq,decide_eq_true_eq]at h
  obtain⟨h0,rfl,rfl⟩:=h
  exact Zov _ _ _ h0
 ·cases h
def Lt6:List Ctr:=[k63]++Lt5
theorem ZD6:Zaw Tryz.prog Lt6:=⟨ZAq,Zez⟩
end Go.Proofs.YtkeoeooghhjibaaGreatDoor
/- Contracts as a list. No condition. -/
namespace Go.Proofs.YtkeoeooghhjibaaGreatDoor
section
variable {C:Ctx}(hC:C.P=Tryz.prog)
include hC
end
theorem Zlk(s:List UInt8)(c:Int):∀m i f:Nat,∀x∈Zl4 s c m i f,(AV.toS x).length≤s.length
 |0,i,f,x,h=>by
  simp only[Zl4,List.mem_singleton]at h
  subst h
  simp[AV.toS]
 |m+1,i,f,x,h=>by
  rw[Zl4]at h
  split at h
  ·rcases List.mem_cons.1 h with rfl |h
   ·simp[AV.toS];omega
   ·exact Zlk s c m _ _ x h
  ·exact Zlk s c m _ _ x h
theorem ZuL(s:List UInt8)(c:Int)(k:Nat):(AV.toS ((Zay s c).getD k .top)).length≤s.length:=by
 by_cases hk:k<(Zay s c).length
 ·have hm:=ZaC (d:=AV.top) hk
  unfold Zay at hm⊢
  exact Zlk s c _ _ _ _ hm
 ·rw[List.getD_eq_getElem?_getD,List.getElem?_eq_none (by omega)];simp[AV.toS]
section
variable {C:Ctx}(hC:C.P=Tryz.prog)
include hC
end
end Go.Proofs.YtkeoeooghhjibaaGreatDoor
/- Contracts as a list. No condition. -/
namespace Go.Proofs.YtkeoeooghhjibaaGreatDoor
def nmB(x:AV):Bool:=Zh3 x.toS 7&&decide (-1≤ZbO x.toS 7)
def nmV(x:AV):Int:=ZbO x.toS 7
def Ztj(b:Bool)(w l:List AV)(k:Nat)(xs:List Int):AV:=.tup [.str (cond b (w.getD 0 .top).toS []), .list (.ints .i64 (cond b (xs++(l.drop k).map nmV) [])), .bool b]
theorem Zz8(b:Bool)(w l:List AV)(k:Nat)(xs:List Int)(h:b=false):∃r'',Wk (.tup [.str [], .nils, .bool false]) r''∧Frz none r'' (Ztj b w l k xs)∧ZmO none=false:=by
 subst h
 exact⟨_, .same _, .tup ⟨.same _ rfl rfl, .nil _ rfl, .same _ rfl rfl,trivial⟩,rfl⟩
theorem ZJR(s:List UInt8)(b:Bool)(w l:List AV)(k:Nat)(xs ys:List Int)(h:b=true)(hs:s=(w.getD 0 .top).toS)(hy:ys=xs++(l.drop k).map nmV):∃r'',Wk (.tup [.str s, .row 0 0, .bool true]) r''∧Frz (some ⟨3,1, .ints .i64 ys⟩) r'' (Ztj b w l k xs)∧ZmO (some ⟨3,1, .ints .i64 ys⟩)=false:=by
 subst h hs hy
 exact⟨_, .same _, .tup ⟨.same _ rfl rfl, .row _ rfl rfl rfl, .same _ rfl rfl,trivial⟩,rfl⟩
theorem Zli(c:UInt8):∀s,(Zba c s).length≤s.length+1
 |[]=>by simp[Zba]
 |b::s=>by
  have ih:=Zli c s
  rw[Zba]
  split
  ·simp;omega
  ·split
   ·simp
   ·rename_i x r h
    rw[h]at ih
    simp at ih ⊢;omega
theorem Zto(s:List UInt8)(h:s.length≤1000000)(c:UInt8):((Zay s (c.toNat:Int)).length≤1000001∧1≤(Zay s (c.toNat:Int)).length)∧∀x∈Zay s (c.toNat:Int),x.toS.length≤1000000:=by
 have e:=congrArg List.length (ZcY s c)
 rw[List.length_map]at e
 have h1:=Zli c s
 have h2:0<(Zba c s).length:=List.length_pos_iff.2 (Zjw c s)
 refine⟨⟨by omega,by omega⟩,fun x hx=>?_⟩
 obtain⟨i,hi,rfl⟩:=List.getElem_of_mem hx
 have:=ZuL s (c.toNat:Int) i
 rw[List.getD_eq_getElem?_getD,List.getElem?_eq_getElem hi]at this
 exact Nat.le_trans this h
section
variable {C:Ctx}(hC:C.P=Tryz.prog)
include hC
theorem ZHM(w:List AV)(n:Int)(hn:n=w.length)(hl:w.length≤1000001∧1≤w.length)(hw:∀x∈w,x.toS.length≤1000000):∀(m k:Nat) (xs:List Int),k+m=w.length→xs.length≤k→Ev C (Zfs n w k xs) (Zd3 n w k xs) (Zz4 116 (Ztj ((w.drop k).all nmB) w w k xs))
 |0,k,xs,hk,hx=>ZE3 hC Za8 ZhA (by
  obtain rfl:k=w.length:=by omega
  have h0:0<w.length:=by omega
  simp[-List.getD_eq_getElem?_getD,Zb0,hn,h0]
  exact ZJR _ _ _ _ _ _ _ rfl rfl (by simp))
 |m+1,k,xs,hk,hx=>by
  have ih:=fun xs hx=>ZHM w n hn hl hw m (k+1) xs (by omega) hx
  have hlt:(k:Int)<n:=by omega
  have hlt2:k<w.length:=by omega
  have hin:=hw _ (ZaC (d:=.top) hlt2)
  refine ZE3 hC Za8 ZhA ?_
  have e:(w.drop k).all nmB=(nmB (w.getD k .top)&&(w.drop (k+1)).all nmB):=by rw[ZjU hlt2,List.all_cons]
  by_cases h1:Zh3 (w.getD k .top).toS 7=true
  ·by_cases h2:ZbO (w.getD k .top).toS 7< -1
   ·have h3:(w.drop k).all nmB=false:=by rw[e];simp[-List.getD_eq_getElem?_getD,nmB,h1];intro h;omega
    simp[-List.getD_eq_getElem?_getD,Zb0,hlt,hlt2,h1,h2,hin]
    exact Zz8 _ _ _ _ _ h3
   ·have h3:(w.drop k).all nmB=(w.drop (k+1)).all nmB:=by rw[e];simp[-List.getD_eq_getElem?_getD,nmB,h1];intro _;omega
    have:=ih (xs++[ZbO (w.getD k .top).toS 7]) (by simp;omega)
    have e2:Ztj ((w.drop k).all nmB) w w k xs=Ztj ((w.drop (k+1)).all nmB) w w (k+1) (xs++[ZbO (w.getD k .top).toS 7]):=by
     unfold Ztj
     rw[h3,ZjU hlt2]
     simp[-List.getD_eq_getElem?_getD,nmV]
    rw[e2]
    simp[-List.getD_eq_getElem?_getD,Zb0,hlt,hlt2,h1,h2,hin,AV.bx,Zab]
    exact⟨by omega,by simpa using this⟩
  ·have h3:(w.drop k).all nmB=false:=by rw[e];simp[-List.getD_eq_getElem?_getD,nmB,h1]
   simp[-List.getD_eq_getElem?_getD,Zb0,hlt,hlt2,h1,hin]
   exact Zz8 _ _ _ _ _ h3
end
def wdB(w:List AV)(n:Int):Bool:=decide ((w.length:Int)=n∧(w.getD 0 .top).toS≠[])&&(w.drop 1).all nmB
theorem Zn7(s:List UInt8)(n:Int)(h:s.length≤1000000∧2≤n):Zat Tryz.prog 116 [.str s, .int .i64 n] (Ztj (wdB (Zay s 32) n) (Zay s 32) (Zay s 32) 1 []) ZwC:=
 ZA3 (ZuT s n) fun C hC=>ZE3 hC Za8 ZCD (by
  obtain⟨hs,hn⟩:=h
  have hc:=Zto s hs 32
  rw[show ((32:UInt8).toNat:Int)=32 from rfl]at hc
  generalize hw:Zay s 32=w at*
  by_cases h1:(w.length:Int)=n
  ·have h0:0<w.length:=by omega
   by_cases h2:(w.getD 0 .top).toS=[]
   ·have h3:wdB w n=false:=by simp[-List.getD_eq_getElem?_getD,wdB,h2]
    simp[-List.getD_eq_getElem?_getD, -List.drop_one,Zpj,hs,hw,h1,h0,h2]
    exact Zz8 _ _ _ _ _ h3
   ·have h3:wdB w n=(w.drop 1).all nmB:=by simp[-List.getD_eq_getElem?_getD, -List.drop_one,wdB,h1,h2]
    have hlt2:1<w.length:=by omega
    have hin:=hc.2 _ (ZaC (d:=.top) hlt2)
    have e:(w.drop 1).all nmB=(nmB (w.getD 1 .top)&&(w.drop 2).all nmB):=by rw[ZjU hlt2,List.all_cons]
    rw[h3]
    simp[-List.getD_eq_getElem?_getD, -List.drop_one,Zpj,hs,hw,h1,h0,h2]
    refine ZE3 hC Za8 ZmZ ?_
    have hlt:1<n:=by omega
    by_cases h4:Zh3 (w.getD 1 .top).toS 7=true
    ·by_cases h5:ZbO (w.getD 1 .top).toS 7< -1
     ·have h6:(w.drop 1).all nmB=false:=by rw[e];simp[-List.getD_eq_getElem?_getD,nmB,h4];intro h;omega
      simp[-List.getD_eq_getElem?_getD, -List.drop_one,ZcM,hlt,hlt2,h4,h5,hin]
      exact Zz8 _ _ _ _ _ h6
     ·have h6:(w.drop 1).all nmB=(w.drop 2).all nmB:=by rw[e];simp[-List.getD_eq_getElem?_getD,nmB,h4];intro _;omega
      have:=ZHM hC w n h1.symm hc.1 hc.2 (w.length-2) 2 [ZbO (w.getD 1 .top).toS 7] (by omega) (by simp)
      have e2:Ztj ((w.drop 1).all nmB) w w 1 []=Ztj ((w.drop 2).all nmB) w w 2 [ZbO (w.getD 1 .top).toS 7]:=by
       unfold Ztj
       rw[h6,ZjU hlt2]
       simp[-List.getD_eq_getElem?_getD,nmV]
      rw[e2]
      simp[-List.getD_eq_getElem?_getD, -List.drop_one,ZcM,hlt,hlt2,h4,h5,hin,AV.bx,Zab]
      simpa using this
    ·have h6:(w.drop 1).all nmB=false:=by rw[e];simp[-List.getD_eq_getElem?_getD,nmB,h4]
     simp[-List.getD_eq_getElem?_getD, -List.drop_one,ZcM,hlt,hlt2,h4,hin]
     exact Zz8 _ _ _ _ _ h6
  ·have h3:wdB w n=false:=by simp[wdB,h1]
   simp[-List.getD_eq_getElem?_getD, -List.drop_one,Zpj,hs,hw,h1]
   exact Zz8 _ _ _ _ _ h3)
def wdS(w:List AV)(n:Int):List UInt8:=cond (wdB w n) (w.getD 0 .top).toS []
def wdI(w:List AV)(n:Int):List Int:=cond (wdB w n) ([]++(w.drop 1).map nmV) []
theorem ZqR(s:List UInt8)(n:Int)(h:s.length≤1000000∧2≤n):Zat Tryz.prog 116 [.str s, .int .i64 n] (.tup [.str (wdS (Zay s 32) n), .list (.ints .i64 (wdI (Zay s 32) n)), .bool (wdB (Zay s 32) n)]) ZwC:=Zn7 s n h
theorem Zgp{w:List AV}{n:Int}(h:wdB w n=true):((wdI w n).length:Int)=n-1∧w.length=n:=by
 have h':=h
 unfold wdB at h'
 simp only[Bool.and_eq_true,decide_eq_true_eq]at h'
 obtain⟨⟨h1,h2⟩,_⟩:=h'
 have h0:0<w.length:=by
  cases w with
  |nil=>exact absurd rfl h2
  |cons=>simp
 unfold wdI
 rw[h]
 simp
 omega
theorem ZvX{w:List AV}{n:Int}{B:Nat}(h:∀x∈w,x.toS.length≤B):(wdS w n).length≤B:=by
 unfold wdS
 cases wdB w n
 ·simp
 ·cases w with
  |nil=>exact Nat.zero_le B
  |cons a r=>exact h a List.mem_cons_self
attribute [irreducible] wdS wdI wdB
def k116:Ctr:=⟨116,0,fun _ a=>match a with |[.str s, .int .i64 n]=>some (decide (s.length≤1000000∧2≤n), .tup [.str (wdS (Zay s 32) n), .list (.ints .i64 (wdI (Zay s 32) n)), .bool (wdB (Zay s 32) n)],ZwC) |_=>none⟩
theorem Zyu:k116.OK Tryz.prog:=fun pa args r fr h=>by
 simp only[k116]at h
 split at h
 ·simp only[Option.some.injEq,Prod.mk.injEq,decide_eq_true_eq]at h
  obtain⟨h0,rfl,rfl⟩:=h
  exact ZqR _ _ h0
 ·cases h
def Lt7:List Ctr:=[k116]++Lt6
theorem Ze6:Zaw Tryz.prog Lt7:=⟨Zyu,ZD6⟩
end Go.Proofs.YtkeoeooghhjibaaGreatDoor
