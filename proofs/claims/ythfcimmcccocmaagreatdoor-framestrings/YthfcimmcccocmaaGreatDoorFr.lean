/- Texts cut at a byte, numbers of texts: plain. No condition. -/
import Derived.Test.YthfcimmcccocmaaGreatDoorSb
import Derived.Lib.SplitLaws
import Derived.Lib.AtoiTie
import Derived.Lib.AtoiAllCases
import Derived.KernelRfl
namespace Go.Proofs.YthfcimmcccocmaaGreatDoor
def Zbg(c:UInt8):List UInt8→List (List UInt8)
 |[]=>[[]]
 |x::s=>if x=c then []::Zbg c s else match Zbg c s with |[]=>[[x]] |y::ys=>(x::y)::ys
theorem Zid(c:UInt8):∀s,Zbg c s≠[]
 |[]=>by simp[Zbg]
 |x::s=>by
  rw[Zbg]
  split
  ·simp
  ·split<;>simp
theorem Zh6(s:List UInt8)(c:UInt8):∀(m i f:Nat),i+m=s.length→f≤i→(ZmW s (c.toNat:Int) m i f).map AV.toS=match Zbg c (s.drop i)with |[]=>[] |y::ys=>((s.drop f).take (i-f)++y)::ys
 |0,i,f,hi,hf=>by
  obtain rfl:i=s.length:=by omega
  rw[List.drop_length]
  simp[ZmW,Zbg,AV.toS]
  rw[List.take_of_length_le (by simp)]
 |m+1,i,f,hi,hf=>by
  have hlt:i<s.length:=by omega
  rw[List.drop_eq_getElem_cons hlt,Zbg,ZmW]
  have hg:s.getD i 0=s[i]:=by rw[List.getD_eq_getElem?_getD,List.getElem?_eq_getElem hlt];rfl
  have hcc:((s.getD i 0).toNat:Int)=(c.toNat:Int)↔s[i]=c:=by
   rw[hg]
   constructor
   ·intro h;exact UInt8.toNat_inj.1 (by omega)
   ·intro h;rw[h]
  by_cases h:s[i]=c
  ·have ih:=Zh6 s c m (i+1) (i+1) (by omega) (Nat.le_refl _)
   rw[if_pos (hcc.2 h),if_pos h,List.map_cons,ih]
   have:(match Zbg c (s.drop (i+1))with |[]=>[] |y::ys=>((s.drop (i+1)).take (i+1-(i+1))++y)::ys)=Zbg c (s.drop (i+1)):=by
    cases hq:Zbg c (s.drop (i+1))with
    |nil=>exact absurd hq (Zid _ _)
    |cons y ys=>simp
   rw[this]
   simp[AV.toS]
  ·have ih:=Zh6 s c m (i+1) f (by omega) (by omega)
   rw[if_neg (fun q=>h (hcc.1 q)),if_neg h,ih]
   have ht:(s.drop f).take (i+1-f)=(s.drop f).take (i-f)++[s[i]]:=by
    rw[show i+1-f=(i-f)+1 by omega,List.take_add_one,List.getElem?_drop,show f+(i-f)=i by omega,List.getElem?_eq_getElem hlt];rfl
   cases hq:Zbg c (s.drop (i+1))with
   |nil=>exact absurd hq (Zid _ _)
   |cons y ys=>simp[ht]
theorem Zqp(s:List UInt8)(c:UInt8):(Zoo s (c.toNat:Int)).map AV.toS=Zbg c s:=by
 unfold Zoo
 rw[Zh6 s c s.length 0 0 (by omega) (Nat.le_refl _)]
 cases hq:Zbg c (s.drop 0)with
 |nil=>exact absurd hq (Zid _ _)
 |cons y ys=>simpa using hq.symm
theorem Zfj(c:UInt8):∀(x s:List UInt8),c∉x→Zbg c (x++c::s)=x::Zbg c s
 |[],s,_=>by rw[List.nil_append,Zbg,if_pos rfl]
 |y::x,s,h=>by
  have ih:=Zfj c x s (fun q=>h (List.mem_cons_of_mem _ q))
  rw[List.cons_append,Zbg,if_neg (fun e=>h (by rw[e];exact List.mem_cons_self)),ih]
theorem ZhV(c:UInt8):∀(x:List UInt8),c∉x→Zbg c x=[x]
 |[],_=>rfl
 |y::x,h=>by
  have ih:=ZhV c x (fun q=>h (List.mem_cons_of_mem _ q))
  rw[Zbg,if_neg (fun e=>h (by rw[e];exact List.mem_cons_self)),ih]
theorem Zfm(s:List UInt8):∀(m i n:Nat),i+m=s.length→ZoK s m i (n:Int)=(Lib.decFrom n (s.drop i)).map fun q:Nat=>(q:Int)
 |0,i,n,hi=>by rw[List.drop_of_length_le (by omega)];rfl
 |m+1,i,n,hi=>by
  have hlt:i<s.length:=by omega
  have hg:s.getD i 0=s[i]:=by rw[List.getD_eq_getElem?_getD,List.getElem?_eq_getElem hlt];rfl
  rw[List.drop_eq_getElem_cons hlt,ZoK,Lib.decFrom,hg]
  unfold Lib.digitVal
  by_cases h:48≤s[i].toNat∧s[i].toNat≤57
  ·rw[if_neg (by omega),if_pos h]
   have ih:=Zfm s m (i+1) (n*10+(s[i].toNat-48)) (by omega)
   rw[←ih]
   congr 1
   omega
  ·rw[if_pos (by omega),if_neg h];rfl
theorem Zcm:∀(t:List UInt8) (acc:Nat) (c:UInt8),Lib.decFrom acc (t++[c])=(Lib.decFrom acc t).bind fun n=>(Lib.digitVal c).map fun d=>n*10+d
 |[],acc,c=>by
  rw[List.nil_append]
  simp only[Lib.decFrom,Option.bind_some]
  cases Lib.digitVal c<;>rfl
 |b::t,acc,c=>by
  rw[List.cons_append,Lib.decFrom,Lib.decFrom]
  cases Lib.digitVal b with
  |none=>rfl
  |some d=>exact Zcm t _ c
theorem ZcY(c:Nat)(h:c<10):(UInt8.ofNat (48+c)).toNat=48+c:=by
 simp[UInt8.toNat_ofNat'];omega
theorem ZgS:∀u:Nat,Lib.decFrom 0 (Lib.decDigits u)=some u:=by
 intro u
 induction u using Nat.strongRecOn with
 |ind u ih=>
  rw[Lib.decDigits]
  by_cases h:u<10
  ·rw[dif_pos h]
   simp only[Lib.decFrom,Lib.digitVal,ZcY u h]
   rw[if_pos (by omega)]
   simp
  ·rw[dif_neg h,Zcm,ih (u/10) (by omega)]
   simp only[Option.bind_some,Lib.digitVal,ZcY (u%10) (by omega)]
   rw[if_pos (by omega)]
   simp;omega
theorem Zd6:∀u:Nat,∀c∈Lib.decDigits u,48≤c.toNat∧c.toNat≤57:=by
 intro u
 induction u using Nat.strongRecOn with
 |ind u ih=>
  intro c hc
  rw[Lib.decDigits]at hc
  by_cases h:u<10
  ·rw[dif_pos h]at hc
   simp only[List.mem_singleton]at hc
   subst hc
   rw[ZcY u h];omega
  ·rw[dif_neg h]at hc
   rcases List.mem_append.1 hc with hc |hc
   ·exact ih (u/10) (by omega) c hc
   ·simp only[List.mem_singleton]at hc
    subst hc
    rw[ZcY _ (by omega)];omega
theorem ZfW(u:Nat):Lib.decDigits u≠[]:=by
 rw[Lib.decDigits]
 split<;>simp
theorem ZjD:∀u:Nat,10≤u→∀c,(Lib.decDigits u).head? =some c→c.toNat≠48:=by
 intro u
 induction u using Nat.strongRecOn with
 |ind u ih=>
  intro h10 c hc
  rw[Lib.decDigits,dif_neg (by omega)]at hc
  have hne:=ZfW (u/10)
  obtain⟨y,ys,hy⟩:=List.exists_cons_of_ne_nil hne
  rw[hy,List.cons_append,List.head?_cons]at hc
  cases hc
  by_cases h2:10≤u/10
  ·exact ih (u/10) (by omega) h2 c (by rw[hy];rfl)
  ·rw[Lib.decDigits,dif_pos (by omega)]at hy
   cases hy
   rw[ZcY _ (by omega)];omega
theorem Zno:∀(k:Nat) (s:List UInt8) (n:Nat),s.length=k→s≠[]→Lib.decFrom 0 s=some n→(∀c,s.head? =some c→c.toNat=48→s.length=1)→Lib.decDigits n=s:=by
 intro k
 induction k with
 |zero=>intro s n h1 h2;exact absurd (List.eq_nil_of_length_eq_zero h1) h2
 |succ k ih=>
  intro s n h1 h2 h3 h4
  obtain⟨t,c,rfl⟩:∃t c,s=t++[c]:=⟨s.dropLast,s.getLast h2,(List.dropLast_concat_getLast h2).symm⟩
  rw[Zcm]at h3
  cases ht:Lib.decFrom 0 t with
  |none=>rw[ht]at h3;cases h3
  |some q=>
   rw[ht,Option.bind_some]at h3
   unfold Lib.digitVal at h3
   by_cases hd:48≤c.toNat∧c.toNat≤57
   ·rw[if_pos hd]at h3
    simp only[Option.map_some,Option.some.injEq]at h3
    have hc:UInt8.ofNat (48+(c.toNat-48))=c:=by
     rw[show 48+(c.toNat-48)=c.toNat by omega];simp
    by_cases hn:t=[]
    ·subst hn
     simp only[Lib.decFrom,Option.some.injEq]at ht
     subst ht
     rw[Lib.decDigits,dif_pos (by omega),←h3,show 0*10+(c.toNat-48)=c.toNat-48 by omega,hc];rfl
    ·obtain⟨y,ys,rfl⟩:=List.exists_cons_of_ne_nil hn
     have hy:y.toNat≠48:=fun e=>by
      have:=h4 y rfl e
      simp at this
     have hq:=ih (y::ys) q (by simpa using h1) hn ht (fun c' hc' e=>by simp only[List.head?_cons,Option.some.injEq]at hc';subst hc';exact absurd e hy)
     have hq0:q≠0:=fun e=>by
      subst e
      rw[Lib.decDigits,dif_pos (by omega)]at hq
      cases hq
      exact hy (ZcY 0 (by omega))
     rw[Lib.decDigits,dif_neg (by omega),show n/10=q by omega,hq,show n%10=c.toNat-48 by omega,hc]
   ·rw[if_neg hd]at h3;cases h3
end Go.Proofs.YthfcimmcccocmaaGreatDoor
/- A number's text, as the program and the reference read it. No condition. -/
namespace Go.Proofs.YthfcimmcccocmaaGreatDoor
def ZjT(s:List UInt8)(d:Int):Bool:=match Lib.atoiAll s with | .ok v=>decide (0≤v)&&(decide (Lib.itoa v=s)&&decide ((s.length:Int)≤d)) |_=>false
theorem ZfG(u:Nat)(h:(Lib.decDigits u).length≤18):Lib.atoiAll (Lib.decDigits u)=.ok (u:Int):=by
 rw[Lib.atoiAll_short _ h]
 obtain⟨c,r,hcr⟩:=List.exists_cons_of_ne_nil (ZfW u)
 have hm:=Zd6 u c (by rw[hcr];exact List.mem_cons_self)
 have h1:¬c=45:=fun e=>by rw[e]at hm;exact absurd hm.1 (by decide)
 have h2:¬c=43:=fun e=>by rw[e]at hm;exact absurd hm.1 (by decide)
 have hd:=ZgS u
 rw[hcr]at hd⊢
 simp[Lib.atoi,h1,h2,Lib.decNat,hd,Lib.NumEnd.ofOption]
theorem Ziu(u:Nat):Lib.itoa (u:Int)=Lib.decDigits u:=by
 unfold Lib.itoa;rw[if_neg (by omega)];rfl
theorem Zin(s:List UInt8)(d:Int)(hd:d≤18):ZjT s d=true↔∃u:Nat,Lib.decDigits u=s∧(s.length:Int)≤d:=by
 constructor
 ·intro h
  unfold ZjT at h
  split at h
  ·rename_i v hv
   simp only[Bool.and_eq_true,decide_eq_true_eq]at h
   refine⟨v.toNat,?_,h.2.2⟩
   have e:=Ziu v.toNat
   rw[show ((v.toNat:Nat):Int)=v by omega]at e
   rw[←e];exact h.2.1
  ·cases h
 ·rintro⟨u,rfl,hl⟩
  unfold ZjT
  rw[ZfG u (by omega)]
  simp only[Bool.and_eq_true,decide_eq_true_eq]
  exact⟨by omega,Ziu u,hl⟩
theorem Zgt(u:Nat)(h:(Lib.decDigits u).length≤18):ZaZ (Lib.decDigits u)=u:=by
 unfold ZaZ;rw[ZfG u h]
theorem Zgl{s:List UInt8}{c:UInt8}{k:Nat}(h:(s.drop k).head? =some c):s.getD k 0=c∧k<s.length:=by
 rw[List.head?_drop]at h
 obtain⟨h1,h2⟩:=List.getElem?_eq_some_iff.1 h
 exact⟨by rw[List.getD_eq_getElem?_getD,h];rfl,h1⟩
theorem Zkz(u:Nat)(d:Int)(h:((Lib.decDigits u).length:Int)≤d):Zev (Lib.decDigits u) d=some (u:Int):=by
 obtain⟨c,r,hcr⟩:=List.exists_cons_of_ne_nil (ZfW u)
 have hm:=Zd6 u c (by rw[hcr];exact List.mem_cons_self)
 have hg:(Lib.decDigits u).getD 0 0=c:=by rw[hcr];rfl
 have hlen:0<(Lib.decDigits u).length:=by rw[hcr];simp
 have ha:ZcF (Lib.decDigits u)=0:=by
  unfold ZcF;rw[hg,if_neg];intro q;omega
 have h1:c.toNat=48→¬1<(Lib.decDigits u).length:=fun e hl=>by
  by_cases h10:10≤u
  ·exact ZjD u h10 c (by rw[hcr];rfl) e
  ·rw[Lib.decDigits,dif_pos (by omega)]at hl
   simp at hl
 have hG:Zj3 (Lib.decDigits u) d=true:=by
  unfold Zj3
  rw[ha,hg]
  exact decide_eq_true ⟨by omega,by omega,fun q=>h1 q.1 q.2⟩
 unfold Zev
 rw[if_pos hG,ha]
 have hn:=Zfm (Lib.decDigits u) (Lib.decDigits u).length 0 0 (by omega)
 rw[List.drop_zero,ZgS]at hn
 rw[Nat.sub_zero]
 rw[show (0:Int)=((0:Nat):Int)from rfl,hn]
 simp
theorem ZoQ(s:List UInt8)(d v:Int)(h:Zev s d=some v)(hv:0≤v):∃u:Nat,Lib.decDigits u=s∧(s.length:Int)≤d:=by
 unfold Zev at h
 by_cases hG:Zj3 s d=true
 ·rw[if_pos hG]at h
  simp only[Zj3,decide_eq_true_eq]at hG
  obtain⟨g1,g2,g3⟩:=hG
  by_cases ha:ZcF s=1
  ·rw[ha]at h g1 g2 g3
   have hpos:0<s.length:=by
    unfold ZcF at ha
    split at ha
    ·rename_i q;exact q.1
    ·cases ha
   have hn:=Zfm s (s.length-1) 1 0 (by omega)
   rw[show ((0:Nat):Int)=0 from rfl]at hn
   rw[hn]at h
   cases hq:Lib.decFrom 0 (s.drop 1)with
   |none=>rw[hq]at h;cases h
   |some q=>
    rw[hq]at h
    simp only[Option.map_some,if_pos,Option.some.injEq]at h
    have hq0:q=0:=by omega
    subst hq0
    have hne:s.drop 1≠[]:=fun e=>by
     have:=congrArg List.length e
     simp at this;omega
    have e:=Zno _ (s.drop 1) 0 rfl hne hq (fun c hc e48=>by
     obtain⟨q1,q2⟩:=Zgl hc
     exact absurd ⟨by rw[q1];exact e48,q2⟩ g3)
    rw[Lib.decDigits,dif_pos (by decide)]at e
    obtain⟨q1,q2⟩:=Zgl (k:=1) (s:=s) (c:=UInt8.ofNat (48+0)) (by rw[←e];rfl)
    exact absurd ⟨by rw[q1];rfl,q2⟩ g3
  ·have ha:ZcF s=0:=by
    unfold ZcF at ha⊢
    split at ha
    ·exact absurd rfl ha
    ·rename_i q;rw[if_neg q]
   rw[ha]at h g1 g2 g3
   rw[Nat.sub_zero]at h
   have hn:=Zfm s s.length 0 0 (by omega)
   rw[show ((0:Nat):Int)=0 from rfl,List.drop_zero]at hn
   rw[hn]at h
   cases hq:Lib.decFrom 0 s with
   |none=>rw[hq]at h;cases h
   |some q=>
    have hne:s≠[]:=fun e=>g1 (by rw[e];rfl)
    refine⟨q,Zno _ s q rfl hne hq (fun c hc e48=>?_),by omega⟩
    obtain⟨q1,q2⟩:=Zgl (k:=0) (by rw[List.drop_zero];exact hc)
    have:¬1<s.length:=fun hl=>g3 ⟨by rw[q1];exact e48,hl⟩
    omega
 ·rw[if_neg hG]at h;cases h
theorem Zrg(s:List UInt8)(d:Int)(hd:d≤18):ZjT s d=((Zev s d).isSome&&decide (0≤(Zev s d).getD 0))∧(ZjT s d=true→ZaZ s=(Zev s d).getD 0):=by
 by_cases h:ZjT s d=true
 ·obtain⟨u,rfl,hl⟩:=(Zin s d hd).1 h
  rw[h,Zkz u d hl]
  exact⟨by simp,fun _=>Zgt u (by omega)⟩
 ·refine⟨?_,fun q=>absurd q h⟩
  cases ho:Zev s d with
  |none=>simpa using h
  |some v=>
   by_cases hv:0≤v
   ·exact absurd ((Zin s d hd).2 (ZoQ s d v ho hv)) h
   ·simpa[hv]using h
end Go.Proofs.YthfcimmcccocmaaGreatDoor
/- Contracts as a list. No condition. -/
namespace Go.Proofs.YthfcimmcccocmaaGreatDoor
theorem Zf7(c:UInt8):∀s:List UInt8,(c∉s∧Lib.index s [c]= -1)∨∃x t,s=x++c::t∧c∉x∧Lib.index s [c]=x.length
 |[]=>.inl ⟨by simp,by simp[Lib.index]⟩
 |x::s=>by
  by_cases h:x=c
  ·subst h
   exact .inr ⟨[],s,rfl,by simp,by simp[Lib.index]⟩
  ·have hi:Lib.index (x::s) [c]=if Lib.index s [c]== -1 then -1 else Lib.index s [c]+1:=by
    rw[Lib.index]
    simp[Ne.symm h]
   rcases Zf7 c s with⟨h1,h2⟩ |⟨y,t,h1,h2,h3⟩
   ·left
    refine⟨by simp[h1,Ne.symm h],?_⟩
    rw[hi,h2];rfl
   ·right
    refine⟨x::y,t,by rw[h1];rfl,by simp[h2,Ne.symm h],?_⟩
    rw[hi,h3,if_neg (by simp)]
    simp
theorem Zny{s:List UInt8}(h:ZdD s=false):∃v,Lib.atoiAll s=.ok v∧ZaZ s=v∧(-9223372036854775808≤v∧v≤9223372036854775807):=by
 unfold ZdD at h
 split at h
 ·rename_i v hv
  exact⟨v,hv,by unfold ZaZ;rw[hv],Lib.atoiAll_bounds hv⟩
 ·cases h
theorem Zft{s:List UInt8}(h:ZdD s=true)(d:Int):ZjT s d=false:=by
 unfold ZdD at h
 unfold ZjT
 split at h
 ·cases h
 ·rename_i hv
  split
  ·rename_i v hq;exact absurd hq (hv v)
  ·rfl
theorem Ziq{s:List UInt8}(h:ZdD s=false)(d:Int):ZjT s d=(decide (0≤ZaZ s)&&(decide (Lib.itoa (ZaZ s)=s)&&decide ((s.length:Int)≤d))):=by
 obtain⟨v,hv,e,_⟩:=Zny h
 rw[e]
 unfold ZjT
 rw[hv]
theorem Zfd{s:List UInt8}(h:ZdD s=false):Zde (ZaZ s)=true:=by
 obtain⟨v,_,e,hb⟩:=Zny h
 rw[e]
 exact i64B_iff.2 hb
def okW(w:List UInt8):Bool:=ZjT w 3
def ZpQ(b:Bool)(xs:List Int)(few:Int):AV:=.tup [.list (.ints .i64 (cond b xs [])), .bool (b&&decide (few≤xs.length))]
theorem rdN(b:Bool)(xs:List Int)(few:Int)(h:b=false):∃r'',Wk (.tup [.nils, .bool false]) r''∧Frz none r'' (ZpQ b xs few)∧ZgK none=false:=by
 subst h
 exact⟨_, .same _, .tup ⟨.nil _ rfl, .same _ rfl rfl,trivial⟩,rfl⟩
theorem rdR(b c:Bool)(xs ys:List Int)(few:Int)(h:b=true)(hx:ys=xs)(hc:c=decide (few≤ys.length)):∃r'',Wk (.tup [.row 0 0, .bool c]) r''∧Frz (some ⟨3,1, .ints .i64 ys⟩) r'' (ZpQ b xs few)∧ZgK (some ⟨3,1, .ints .i64 ys⟩)=false:=by
 subst h hx hc
 exact⟨_, .same _, .tup ⟨.row _ rfl rfl rfl, .same _ rfl rfl,trivial⟩,rfl⟩
theorem Zn9{c:UInt8}{s:List UInt8}(h:c∉s):Zbg c s=[s]:=ZhV c s h
theorem ZnR{x t:List UInt8}{c:UInt8} :((x++c::t).drop 0).take (x.length-0)=x∧((x++c::t).drop (x.length+1)).take ((x++c::t).length-(x.length+1))=t:=by
 refine⟨by simp,?_⟩
 have e:(x++c::t).drop (x.length+1)=t:=by
  rw[←List.drop_drop,List.drop_left];rfl
 rw[e]
 exact List.take_of_length_le (by simp;omega)
theorem ZhX{α:Type}(l:List α)(k n:Nat):sub3 l k n=(l.drop k).take n:=by unfold sub3;rfl
section
variable {C:Ctx}(hC:C.P=Tryz.prog)(s:List UInt8)(few:Int)
include hC
theorem ZCG:∀(n:Nat) (l1:List UInt8) (l0:List Int),l1.length≤n→n≤1000000→l0.length+l1.length≤1000000→Ev C (Zej s few l0 l1) (Zdr s few l0 l1) (Zqh 32 (ZpQ ((Zbg 32 l1).all okW) (l0++(Zbg 32 l1).map ZaZ) few)):=by
 intro n
 induction n with
 |zero=>
  intro l1 l0 hl hn h0
  obtain rfl:l1=[]:=List.eq_nil_of_length_eq_zero (by omega)
  refine ZrL hC ZaR Zf2 ?_
  have hi:ixS [] [32]= -1:=by unfold ixS;simp[Lib.index]
  have hx:ZdD []=true:=by unfold ZdD;decide +kernel
  have hb:(Zbg 32 []).all okW=false:=by simp[Zbg,okW,Zft hx]
  simp[ZaA,hi,hx]
  exact rdN _ _ _ hb
 |succ n ih=>
  intro l1 l0 hl hn h0
  refine ZrL hC ZaR Zf2 ?_
  have hl1:l1.length≤1000000:=by omega
  rcases Zf7 32 l1 with⟨h1,h2⟩ |⟨x,t,h1,h2,h3⟩
  ·have hi:ixS l1 [32]= -1:=by unfold ixS;exact h2
   have hcut:=Zn9 h1
   rw[hcut]
   have hall:([l1].all okW)=okW l1:=by simp
   rw[hall]
   cases hx:ZdD l1 with
   |true=>
    simp[ZaA,hi,hl1,hx]
    exact rdN _ _ _ (Zft hx 3)
   |false=>
    have hb:=Ziq hx 3
    have h64:=Zfd hx
    have hbo:okW l1=ZjT l1 3:=rfl
    rw[←hbo]at hb
    by_cases g1:ZaZ l1<0
    ·simp[ZaA,hi,hl1,hx,g1]
     exact rdN _ _ _ (by rw[hb,decide_eq_false (show ¬0≤ZaZ l1 by omega)];rfl)
    ·by_cases g2:Lib.itoa (ZaZ l1)=l1
     ·by_cases g3:(3:Int)<l1.length
      ·simp[ZaA,hi,hl1,hx,g1,h64,g2,g3]
       exact rdN _ _ _ (by rw[hb];simp;omega)
      ·have g3':¬3<l1.length:=by omega
       have hbt:okW l1=true:=by rw[hb];simp[g2];omega
       simp[ZaA,hi,hl1,hx,g1,h64,g2,g3,g3',AV.bx,Zag]
       refine⟨by omega,rdR _ _ _ _ _ hbt (by simp) (by simp)⟩
     ·simp[ZaA,hi,hl1,hx,g1,h64,g2]
      exact rdN _ _ _ (by rw[hb];simp[g2])
  ·have hi:ixS l1 [32]=x.length:=by unfold ixS;exact h3
   obtain⟨s1,s2⟩:=ZnR (x:=x) (t:=t) (c:=32)
   have hcut:Zbg 32 l1=x::Zbg 32 t:=by rw[h1];exact Zfj 32 x t h2
   have hlx:l1.length=x.length+1+t.length:=by rw[h1];simp;omega
   rw[hcut]
   have hall:((x::Zbg 32 t).all okW)=(okW x&&(Zbg 32 t).all okW):=by simp
   rw[hall,List.map_cons]
   rw[←h1]at s1 s2
   have hx1:x.length≤1000000:=by omega
   have e1:((x.length:Int)+0).toNat=x.length:=by omega
   have e2:((x.length:Int)+1).toNat=x.length+1:=by omega
   have n0:¬(x.length:Int)<0:=by omega
   rw[Nat.sub_zero]at s1
   have t1:sub3 l1 0 x.length=x:=(ZhX _ _ _).trans s1
   have t2:sub3 l1 (x.length+1) (l1.length-(x.length+1))=t:=(ZhX _ _ _).trans s2
   cases hx:ZdD x with
   |true=>
    simp[ZaA,hi,hl1,n0,t1,hx,hx1]
    repeat refine⟨by omega,?_⟩
    exact rdN _ _ _ (by rw[show okW x=false from Zft hx 3];rfl)
   |false=>
    have hb:=Ziq hx 3
    have h64:=Zfd hx
    have hbo:okW x=ZjT x 3:=rfl
    rw[←hbo]at hb
    by_cases g1:ZaZ x<0
    ·simp[ZaA,hi,hl1,n0,t1,hx,hx1,g1]
     repeat refine⟨by omega,?_⟩
     exact rdN _ _ _ (by rw[hb,decide_eq_false (show ¬0≤ZaZ x by omega)];rfl)
    ·by_cases g2:Lib.itoa (ZaZ x)=x
     ·by_cases g3:(3:Int)<x.length
      ·simp[ZaA,hi,hl1,n0,t1,hx,hx1,g1,h64,g2,g3]
       repeat refine⟨by omega,?_⟩
       exact rdN _ _ _ (by rw[hb];simp;omega)
      ·have g3':¬3<x.length:=by omega
       have hbt:okW x=true:=by rw[hb];simp[g2];omega
       have:=ih t (l0++[ZaZ x]) (by omega) (by omega) (by simp;omega)
       rw[List.append_assoc,List.singleton_append]at this
       rw[hbt,Bool.true_and]
       simp[ZaA,hi,hl1,n0,t1,hx,hx1,g1,h64,g2,g3,g3',AV.bx,Zag,e2,t2]
       repeat refine⟨by omega,?_⟩
       simpa using this
     ·simp[ZaA,hi,hl1,n0,t1,hx,hx1,g1,h64,g2]
      repeat refine⟨by omega,?_⟩
      exact rdN _ _ _ (by rw[hb];simp[g2])
theorem ZCh(hl:s.length≤1000000)(hl2:s.length<1000000):Ev C (ZeH s few) (Zdv s few) (Zqh 32 (ZpQ ((Zbg 32 s).all okW) ((Zbg 32 s).map ZaZ) few)):=by
 refine ZrL hC ZaR Zkb ?_
 have hs:s.length≤1000000:=hl
 rcases Zf7 32 s with⟨h1,h2⟩ |⟨x,t,h1,h2,h3⟩
 ·have hi:ixS s [32]= -1:=by unfold ixS;exact h2
  have hcut:=Zn9 h1
  rw[hcut]
  have hall:([s].all okW)=okW s:=by simp
  rw[hall]
  cases hx:ZdD s with
  |true=>
   simp[ZaC,hi,hs,hx]
   exact rdN _ _ _ (Zft hx 3)
  |false=>
   have hb:=Ziq hx 3
   have h64:=Zfd hx
   have hbo:okW s=ZjT s 3:=rfl
   rw[←hbo]at hb
   by_cases g1:ZaZ s<0
   ·simp[ZaC,hi,hs,hx,g1]
    exact rdN _ _ _ (by rw[hb,decide_eq_false (show ¬0≤ZaZ s by omega)];rfl)
   ·by_cases g2:Lib.itoa (ZaZ s)=s
    ·by_cases g3:(3:Int)<s.length
     ·simp[ZaC,hi,hs,hx,g1,h64,g2,g3]
      exact rdN _ _ _ (by rw[hb];simp;omega)
     ·have g3':¬3<s.length:=by omega
      have hbt:okW s=true:=by rw[hb];simp[g2];omega
      simp[ZaC,hi,hs,hx,g1,h64,g2,g3,g3',AV.bx,Zag]
      exact rdR _ _ _ _ _ hbt (by simp) (by simp)
    ·simp[ZaC,hi,hs,hx,g1,h64,g2]
     exact rdN _ _ _ (by rw[hb];simp[g2])
 ·have hi:ixS s [32]=x.length:=by unfold ixS;exact h3
  obtain⟨s1,s2⟩:=ZnR (x:=x) (t:=t) (c:=32)
  have hcut:Zbg 32 s=x::Zbg 32 t:=by rw[h1];exact Zfj 32 x t h2
  have hlx:s.length=x.length+1+t.length:=by rw[h1];simp;omega
  rw[hcut]
  have hall:((x::Zbg 32 t).all okW)=(okW x&&(Zbg 32 t).all okW):=by simp
  rw[hall,List.map_cons]
  rw[←h1]at s1 s2
  have hx1:x.length≤1000000:=by omega
  have e1:((x.length:Int)+0).toNat=x.length:=by omega
  have e2:((x.length:Int)+1).toNat=x.length+1:=by omega
  have n0:¬(x.length:Int)<0:=by omega
  rw[Nat.sub_zero]at s1
  have t1:sub3 s 0 x.length=x:=(ZhX _ _ _).trans s1
  have t2:sub3 s (x.length+1) (s.length-(x.length+1))=t:=(ZhX _ _ _).trans s2
  cases hx:ZdD x with
  |true=>
   simp[ZaC,hi,hs,n0,t1,hx,hx1]
   repeat refine⟨by omega,?_⟩
   exact rdN _ _ _ (by rw[show okW x=false from Zft hx 3];rfl)
  |false=>
   have hb:=Ziq hx 3
   have h64:=Zfd hx
   have hbo:okW x=ZjT x 3:=rfl
   rw[←hbo]at hb
   by_cases g1:ZaZ x<0
   ·simp[ZaC,hi,hs,n0,t1,hx,hx1,g1]
    repeat refine⟨by omega,?_⟩
    exact rdN _ _ _ (by rw[hb,decide_eq_false (show ¬0≤ZaZ x by omega)];rfl)
   ·by_cases g2:Lib.itoa (ZaZ x)=x
    ·by_cases g3:(3:Int)<x.length
     ·simp[ZaC,hi,hs,n0,t1,hx,hx1,g1,h64,g2,g3]
      repeat refine⟨by omega,?_⟩
      exact rdN _ _ _ (by rw[hb];simp;omega)
     ·have g3':¬3<x.length:=by omega
      have hbt:okW x=true:=by rw[hb];simp[g2];omega
      have:=ZCG hC s few t.length t [ZaZ x] (Nat.le_refl _) (by omega) (by simp;omega)
      rw[List.singleton_append]at this
      rw[hbt,Bool.true_and]
      simp[ZaC,hi,hs,n0,t1,hx,hx1,g1,h64,g2,g3,g3',AV.bx,Zag,e2,t2]
      repeat refine⟨by omega,?_⟩
      simpa using this
    ·simp[ZaC,hi,hs,n0,t1,hx,hx1,g1,h64,g2]
     repeat refine⟨by omega,?_⟩
     exact rdN _ _ _ (by rw[hb];simp[g2])
end
def rdL(s:List UInt8):List Int:=cond ((Zbg 32 s).all okW) ((Zbg 32 s).map ZaZ) []
def rdB(s:List UInt8)(few:Int):Bool:=(Zbg 32 s).all okW&&decide (few≤((Zbg 32 s).map ZaZ).length)
theorem Zoy(s:List UInt8)(few:Int)(hl:s.length<1000000):Zae Tryz.prog 32 [.str s, .int .i64 few] (.tup [.list (.ints .i64 (rdL s)), .bool (rdB s few)]) ZuA:=
 ZrS (r:=ZpQ ((Zbg 32 s).all okW) ((Zbg 32 s).map ZaZ) few) (Zr7 s few) fun C hC=>ZrL hC ZaR Zzz (by
  have:=ZCh hC s few (by omega) hl
  simp[ZxW]
  simpa using this)
section
variable {C:Ctx}(hC:C.P=Tryz.prog)(xs ys:List Int)(hl:(0<xs.length∧xs.length≤1000000)∧ys.length≤1000000)
include hC hl
theorem ZBN:Ev C (ZcH xs ys 0 2 (List.replicate (xs.length+ys.length) 0) 0) (Zb4 xs ys 0 2 (List.replicate (xs.length+ys.length) 0) 0) (ZdC 61 (.row 0 0) (some ⟨3,1, .ints .i64 (xs++ys)⟩)):=by
 obtain⟨⟨h0,h1⟩,h2⟩:=hl
 have s2:Ev C (ZcH xs ys (xs.length+ys.length) 2 (xs++ys) 2) (Zb4 xs ys (xs.length+ys.length) 2 (xs++ys) 2) (ZdC 61 (.row 0 0) (some ⟨3,1, .ints .i64 (xs++ys)⟩)):=
  tgo hC ZaR ZeG (by simp[ZcQ])
 have s1:Ev C (ZcH xs ys xs.length 2 (xs++List.replicate ys.length 0) 1) (Zb4 xs ys xs.length 2 (xs++List.replicate ys.length 0) 1) (ZdC 61 (.row 0 0) (some ⟨3,1, .ints .i64 (xs++ys)⟩)):=
  tgo hC ZaR ZeG (by
   simp[ZcQ]
   exact⟨by omega,by simpa using s2⟩)
 exact tgo hC ZaR ZeG (by
  have e:(List.replicate (xs.length+ys.length) (0:Int)).drop xs.length=List.replicate ys.length 0:=by simp
  simp[ZcQ]
  exact⟨by omega,by simpa using s1⟩)
end
theorem Zfw(xs ys:List Int)(hl:(0<xs.length∧xs.length≤1000000)∧ys.length≤1000000):Zae Tryz.prog 61 [.list (.gen [.list (.ints .i64 xs), .list (.ints .i64 ys)])] (.row 0 0) (some ⟨3,1, .ints .i64 (xs++ys)⟩):=
 start (ZsC xs ys) fun C hC=>tgo hC ZaR ZAu (by
  have h:=hl
  obtain⟨⟨h0,h1⟩,h2⟩:=h
  have c:=ZBN hC xs ys hl
  have n2:¬((xs.length:Int)+ys.length<0):=by omega
  have n1:¬((xs.length:Int)<0):=by omega
  have n3:(0:Int)<xs.length+ys.length:=by omega
  have e3:((xs.length:Int)+ys.length).toNat=xs.length+ys.length:=by omega
  have a2:Ev C (Zcp xs ys 2 ((xs.length:Int)+ys.length) 2) (Zb2 xs ys 2 ((xs.length:Int)+ys.length) 2) (ZdC 61 (.row 0 0) (some ⟨3,1, .ints .i64 (xs++ys)⟩)):=
   tgo hC ZaR ZeI (by
    simp[ZcM,n2,n3,e3]
    repeat refine⟨by omega,?_⟩
    simpa using c)
  have a1:Ev C (Zcp xs ys 2 xs.length 1) (Zb2 xs ys 2 xs.length 1) (ZdC 61 (.row 0 0) (some ⟨3,1, .ints .i64 (xs++ys)⟩)):=
   tgo hC ZaR ZeI (by
    simp[ZcM,n2]
    repeat refine⟨by omega,?_⟩
    simpa using a2)
  have a0:Ev C (Zcp xs ys 2 0 0) (Zb2 xs ys 2 0 0) (ZdC 61 (.row 0 0) (some ⟨3,1, .ints .i64 (xs++ys)⟩)):=
   tgo hC ZaR ZeI (by
    simp[ZcM,n1]
    repeat refine⟨by omega,?_⟩
    simpa using a1)
  simp[ZwH]
  simpa using a0)
theorem ZnB{w:World}{ok:Nat→Prop}{h:Zac}{L:Lay}{r1 r2:Row}{v:Value}(e:r1.elems=r2.elems)(hr:Rel w ok h L (.list r1) v):Rel w ok h L (.list r2) v:=by
 cases hr with
 |nil _ a c hn=>exact .nil r2 a c (e▸hn)
 |list _ zs hx ad n cap sz cs hb hok hn hcap hsz hl h1 hc hp hr=>exact .list r2 zs (hx.trans e) ad n cap sz cs hb hok hn hcap hsz hl h1 hc hp hr
theorem ZiO(xs ys:List Int)(hl:(0<xs.length∧xs.length≤1000000)∧ys.length≤1000000):Zae Tryz.prog 61 [.list (.big (.ints .i64) [.list (.ints .i64 xs), .list (.ints .i64 ys)])] (.row 0 0) (some ⟨3,1, .ints .i64 (xs++ys)⟩):=by
 intro w okA L vs hargs
 obtain⟨x,rfl,hx⟩:=ZhQ hargs
 exact Zfw xs ys hl w okA L _ (RelL.cons (ZnB (show (Row.big (.ints .i64) [.list (.ints .i64 xs), .list (.ints .i64 ys)]).elems=(Row.gen [.list (.ints .i64 xs), .list (.ints .i64 ys)]).elems from rfl) hx) RelL.nil)
attribute [irreducible] rdL rdB
def k32:Ctr:=⟨32,0,fun _ a=>match a with |[.str s, .int .i64 few]=>some (decide (s.length<1000000), .tup [.list (.ints .i64 (rdL s)), .bool (rdB s few)],ZuA) |_=>none⟩
theorem Zwn:k32.OK Tryz.prog:=fun pa args r fr h=>by
 simp only[k32]at h
 split at h
 ·simp only[Option.some.injEq,Prod.mk.injEq,decide_eq_true_eq]at h
  obtain⟨h0,rfl,rfl⟩:=h
  exact Zoy _ _ h0
 ·cases h
def k61:Ctr:=⟨61,0,fun _ a=>match a with |[.list (.gen [.list (.ints .i64 xs), .list (.ints .i64 ys)])]=>some (decide ((0<xs.length∧xs.length≤1000000)∧ys.length≤1000000), .row 0 0,some ⟨3,1, .ints .i64 (xs++ys)⟩) |_=>none⟩
theorem ZvQ:k61.OK Tryz.prog:=fun pa args r fr h=>by
 simp only[k61]at h
 split at h
 ·simp only[Option.some.injEq,Prod.mk.injEq,decide_eq_true_eq]at h
  obtain⟨h0,rfl,rfl⟩:=h
  exact Zfw _ _ h0
 ·cases h
def k61b:Ctr:=⟨61,0,fun _ a=>match a with |[.list (.big (.ints .i64) [.list (.ints .i64 xs), .list (.ints .i64 ys)])]=>some (decide ((0<xs.length∧xs.length≤1000000)∧ys.length≤1000000), .row 0 0,some ⟨3,1, .ints .i64 (xs++ys)⟩) |_=>none⟩
theorem Zsm:k61b.OK Tryz.prog:=fun pa args r fr h=>by
 simp only[k61b]at h
 split at h
 ·simp only[Option.some.injEq,Prod.mk.injEq,decide_eq_true_eq]at h
  obtain⟨h0,rfl,rfl⟩:=h
  exact ZiO _ _ h0
 ·cases h
def N5:List Ctr:=[k32,k61,k61b]++N4
theorem Zcc:ZaL Tryz.prog N5:=⟨Zwn,⟨ZvQ,⟨Zsm,ZyT⟩⟩⟩
end Go.Proofs.YthfcimmcccocmaaGreatDoor
/- Paths of functions, printed by the explorer (Gx). No condition. -/
namespace Go.Proofs.YthfcimmcccocmaaGreatDoor
set_option maxRecDepth 100000
set_option linter.unusedVariables false
def Zwl(xs ys:List Int):AFrame:={ fn:=30,N:=25,env:=[(0,AV.list (.ints .i64 xs)),(1,AV.list (.ints .i64 ys))],todo:=[.code a30.code],defs:=[],rnd:=none,ret:=false,res:=[ARes.tmp 4] }
def ZCE(xs ys:List Int):List AFrame:=[(Zwl xs ys)]
theorem Zr4(xs ys:List Int):Zap tab 30 [AV.list (.ints .i64 xs),AV.list (.ints .i64 ys)]=some (Zwl xs ys):=rfl
def Zgc(n0:Int)(l1:List Int):List AFrame:=[{ fn:=30,N:=25,env:=[(5,AV.nils),(11,AV.row 30012 0),(12,AV.int .i64 n0),(13,AV.int .i64 0)],todo:=.code (ACode.gh [] Zs9)::Zv5,defs:=[],rnd:=none,ret:=false,res:=[ARes.tmp 4] }]
def Zea(n0:Int)(l1:List Int):Zac:=[(30012,{ base:=0,blks:=[Blk.row 3 1 (.ints .i64 l1)] })]
abbrev Zmt(n0:Int)(l1:List Int):List AFrame×Zac:=(Zgc n0 l1,Zea n0 l1)
def ZgE(n0:Int)(l1:List Int)(n2:Int)(x3:List AV):List AFrame:=[{ fn:=30,N:=25,env:=[(5,AV.row 30022 0),(11,AV.row 30012 0),(12,AV.int .i64 n0),(13,AV.int .i64 n2)],todo:=.code (ACode.gh [] Zs9)::Zv5,defs:=[],rnd:=none,ret:=false,res:=[ARes.tmp 4] }]
def Zeg(n0:Int)(l1:List Int)(n2:Int)(x3:List AV):Zac:=[(30012,{ base:=0,blks:=[Blk.row 3 1 (.ints .i64 l1)] }),(30022,{ base:=0,blks:=[Blk.row 9 1 (Row.big Sh.str x3)] })]
abbrev Zg7(n0:Int)(l1:List Int)(n2:Int)(x3:List AV):List AFrame×Zac:=(ZgE n0 l1 n2 x3,Zeg n0 l1 n2 x3)
def ZuX(A:Ar)(K:KT)(F:FT)(xs ys:List Int):Prop:=rB [decide ((0<List.length xs∧List.length xs≤1000000)∧List.length ys≤1000000),List.all [AV.list (.ints .i64 xs),AV.list (.ints .i64 ys)] fun x=>AV.bx x&&Nat.beq (Zag A x) 1] (K (Zmt (A.int (A.len (List.append xs ys))) (List.append xs ys)))
theorem ZAV{A:Ar}{K:KT}{F:FT}{M:MT}{xs ys:List Int} :Zat A tab N5 30 K F M (.run 21 (.hd)) (ZCE xs ys) []=ZuX A K F xs ys:=by kernel_rfl
def ZhI(A:Ar)(K:KT)(F:FT)(n0:Int)(l1:List Int):Prop:=bB (A.lt 0 n0) (rB [A.inR .i64 (A.add 0 1),Zah (Nat.ble (A.lenA [AV.str (Go.Lib.itoa (A.nth l1 (A.nat 0)))]) 4294967296) (Nat.blt 0 (A.lenA [AV.str (Go.Lib.itoa (A.nth l1 (A.nat 0)))])),List.all [AV.str (Go.Lib.itoa (A.nth l1 (A.nat 0)))] fun x=>AV.bx x&&Nat.beq (Zag A x) 1,decide (Zde (A.nth l1 (A.nat 0))=true),Zah (Nat.blt (A.nat 0) (A.len l1)) true,Zah (A.le 0 0) (Nat.blt (A.nat 0) (A.len l1))] (K (Zg7 (n0) (l1) (A.add 0 1) ([AV.str (Go.Lib.itoa (A.nth l1 (A.nat 0)))])))) (rB [A.eq (A.int 0) 0] (F (AV.str []) (none)))
theorem ZmJ{A:Ar}{K:KT}{F:FT}{M:MT}{n0:Int}{l1:List Int} :Zat A tab N5 30 K F M (.run 6 (.tf (.run 24 (.hd)) (.run 21 (.ty (.run 9 (.fn)))))) (Zgc n0 l1) (Zea n0 l1)=ZhI A K F n0 l1:=by kernel_rfl
def Zei(A:Ar)(K:KT)(F:FT)(n0:Int)(l1:List Int)(n2:Int)(x3:List AV):Prop:=bB (A.lt n2 n0) (rB [A.inR .i64 (A.add n2 1),Nat.ble (A.lenA x3+A.lenA [AV.str (Go.Lib.itoa (A.nth l1 (A.nat n2)))]) 4294967296,List.all [AV.str (Go.Lib.itoa (A.nth l1 (A.nat n2)))] fun x=>AV.bx x&&Nat.beq (Zag A x) 1,decide (Zde (A.nth l1 (A.nat n2))=true),Zah (Nat.blt (A.nat n2) (A.len l1)) true,Zah (A.le 0 n2) (Nat.blt (A.nat n2) (A.len l1))] (K (Zg7 (n0) (l1) (A.add n2 1) (A.appA x3 [AV.str (Go.Lib.itoa (A.nth l1 (A.nat n2)))])))) (rB [decide (List.length x3≤1000000∧List.length (Go.Lib.join (List.map AV.toS x3) [32])≤1000000)] (F (AV.str (Go.Lib.join (List.map AV.toS x3) [32])) (none)))
theorem Zhq{A:Ar}{K:KT}{F:FT}{M:MT}{n0:Int}{l1:List Int}{n2:Int}{x3:List AV} :Zat A tab N5 30 K F M (.run 6 (.tf (.run 24 (.hd)) (.run 8 (.fn)))) (ZgE n0 l1 n2 x3) (Zeg n0 l1 n2 x3)=Zei A K F n0 l1 n2 x3:=by kernel_rfl
def ZwB(s:List UInt8)(few:Int):AFrame:={ fn:=37,N:=42,env:=[(0,AV.str s),(1,AV.int .i64 few)],todo:=[.code a37.code],defs:=[],rnd:=none,ret:=false,res:=[ARes.tmp 4,ARes.tmp 5] }
def ZBX(s:List UInt8)(few:Int):List AFrame:=[(ZwB s few)]
theorem Zum(s:List UInt8)(few:Int):Zap tab 37 [AV.str s,AV.int .i64 few]=some (ZwB s few):=rfl
def Zgk(few:Int)(x0:List AV):List AFrame:=[{ fn:=37,N:=42,env:=[(1,AV.int .i64 few),(6,AV.row 37013 0),(7,AV.nils),(8,AV.int .i64 0)],todo:=.code (ACode.gh [] Ztt)::ZvN,defs:=[],rnd:=none,ret:=false,res:=[ARes.tmp 4,ARes.tmp 5] }]
def Zd1(few:Int)(x0:List AV):Zac:=[(37013,{ base:=0,blks:=[Blk.row 9 1 (Row.big Sh.str x0)] })]
abbrev ZlO(few:Int)(x0:List AV):List AFrame×Zac:=(Zgk few x0,Zd1 few x0)
def Zf5(few:Int)(x0:List AV)(n1:Int)(l2:List Int):List AFrame:=[{ fn:=37,N:=42,env:=[(1,AV.int .i64 few),(6,AV.row 37013 0),(7,AV.row 37037 0),(8,AV.int .i64 n1)],todo:=.code (ACode.gh [] Ztt)::ZvN,defs:=[],rnd:=none,ret:=false,res:=[ARes.tmp 4,ARes.tmp 5] }]
def Zeu(few:Int)(x0:List AV)(n1:Int)(l2:List Int):Zac:=[(37013,{ base:=0,blks:=[Blk.row 9 1 (Row.big Sh.str x0)] }),(37037,{ base:=0,blks:=[Blk.row 3 1 (.ints .i64 l2)] })]
abbrev ZhN(few:Int)(x0:List AV)(n1:Int)(l2:List Int):List AFrame×Zac:=(Zf5 few x0 n1 l2,Zeu few x0 n1 l2)
def ZwI(A:Ar)(K:KT)(F:FT)(s:List UInt8)(few:Int):Prop:=rB [decide (List.length s≤1000000)] (K (ZlO (few) (Zoo s 32)))
theorem ZAY{A:Ar}{K:KT}{F:FT}{M:MT}{s:List UInt8}{few:Int} :Zat A tab N5 37 K F M (.run 23 (.hd)) (ZBX s few) []=ZwI A K F s few:=by kernel_rfl
def Zc3(A:Ar)(K:KT)(F:FT)(few:Int)(x0:List AV):Prop:=bB (A.lt 0 (A.int (A.lenA x0))) (rB [decide ((3:Int)≤18∧List.length (AV.toS (A.nthA x0 (A.nat 0)))≤1000000),Zah (Nat.blt (A.nat 0) (A.lenA x0)) true,Zah (A.le 0 0) (Nat.blt (A.nat 0) (A.lenA x0))] (bB (A.not (ZgJ (AV.toS (A.nthA x0 (A.nat 0))) 3)) (F (AV.tup [AV.nils,AV.bool false]) (none)) (bB (A.lt (Za9 (AV.toS (A.nthA x0 (A.nat 0))) 3) 0) (F (AV.tup [AV.nils,AV.bool false]) (none)) (rB [A.inR .i64 (A.add 0 1),Zah (Nat.ble (A.len [Za9 (AV.toS (A.nthA x0 (A.nat 0))) 3]) 4294967296) (Nat.blt 0 (A.len [Za9 (AV.toS (A.nthA x0 (A.nat 0))) 3])),List.all [AV.int .i64 (Za9 (AV.toS (A.nthA x0 (A.nat 0))) 3)] fun x=>AV.bx x&&Nat.beq (Zag A x) 1] (K (ZhN (few) (x0) (A.add 0 1) ([Za9 (AV.toS (A.nthA x0 (A.nat 0))) 3]))))))) (F (AV.tup [AV.nils,AV.bool (A.le few (A.int 0))]) (none))
theorem ZmH{A:Ar}{K:KT}{F:FT}{M:MT}{few:Int}{x0:List AV} :Zat A tab N5 37 K F M (.run 9 (.tf (.run 23 (.tf (.ty (.ty (.run 1 (.ty (.run 6 (.fn)))))) (.fy (.fy (.run 1 (.tf (.run 6 (.fn)) (.run 16 (.hd)))))))) (.run 12 (.fn)))) (Zgk few x0) (Zd1 few x0)=Zc3 A K F few x0:=by kernel_rfl
def ZbV(A:Ar)(K:KT)(F:FT)(few:Int)(x0:List AV)(n1:Int)(l2:List Int):Prop:=bB (A.lt n1 (A.int (A.lenA x0))) (rB [decide ((3:Int)≤18∧List.length (AV.toS (A.nthA x0 (A.nat n1)))≤1000000),Zah (Nat.blt (A.nat n1) (A.lenA x0)) true,Zah (A.le 0 n1) (Nat.blt (A.nat n1) (A.lenA x0))] (bB (A.not (ZgJ (AV.toS (A.nthA x0 (A.nat n1))) 3)) (F (AV.tup [AV.nils,AV.bool false]) (none)) (bB (A.lt (Za9 (AV.toS (A.nthA x0 (A.nat n1))) 3) 0) (F (AV.tup [AV.nils,AV.bool false]) (none)) (rB [A.inR .i64 (A.add n1 1),Nat.ble (A.len l2+A.len [Za9 (AV.toS (A.nthA x0 (A.nat n1))) 3]) 4294967296,List.all [AV.int .i64 (Za9 (AV.toS (A.nthA x0 (A.nat n1))) 3)] fun x=>AV.bx x&&Nat.beq (Zag A x) 1] (K (ZhN (few) (x0) (A.add n1 1) (A.app l2 [Za9 (AV.toS (A.nthA x0 (A.nat n1))) 3]))))))) (F (AV.tup [AV.row 0 0,AV.bool (A.le few (A.int (A.len l2)))]) (some { e:=3,sz:=1,r:=.ints .i64 l2 }))
theorem ZgW{A:Ar}{K:KT}{F:FT}{M:MT}{few:Int}{x0:List AV}{n1:Int}{l2:List Int} :Zat A tab N5 37 K F M (.run 9 (.tf (.run 23 (.tf (.ty (.ty (.run 1 (.ty (.run 6 (.fn)))))) (.fy (.fy (.run 1 (.tf (.run 6 (.fn)) (.run 16 (.hd)))))))) (.run 12 (.fn)))) (Zf5 few x0 n1 l2) (Zeu few x0 n1 l2)=ZbV A K F few x0 n1 l2:=by kernel_rfl
def Zvg(xs:List Int):AFrame:={ fn:=39,N:=23,env:=[(0,AV.list (.ints .i64 xs))],todo:=[.code a39.code],defs:=[],rnd:=none,ret:=false,res:=[ARes.tmp 2] }
def ZCo(xs:List Int):List AFrame:=[(Zvg xs)]
theorem Zsf(xs:List Int):Zap tab 39 [AV.list (.ints .i64 xs)]=some (Zvg xs):=rfl
def ZfS(xs:List Int)(l0:List UInt8)(n1:Int):List AFrame:=[{ fn:=39,N:=23,env:=[(0,AV.list (.ints .i64 xs)),(3,AV.str l0),(4,AV.int .i64 n1)],todo:=.code (ACode.gh [] Zv2)::ZzT,defs:=[],rnd:=none,ret:=false,res:=[ARes.tmp 2] }]
def Zeo(xs:List Int)(l0:List UInt8)(n1:Int):Zac:=[]
abbrev ZeF(xs:List Int)(l0:List UInt8)(n1:Int):List AFrame×Zac:=(ZfS xs l0 n1,Zeo xs l0 n1)
def ZxK(A:Ar)(K:KT)(F:FT)(xs:List Int):Prop:=K (ZeF (xs) ([]) (0))
theorem Zzl{A:Ar}{K:KT}{F:FT}{M:MT}{xs:List Int} :Zat A tab N5 39 K F M (.run 16 (.hd)) (ZCo xs) []=ZxK A K F xs:=by kernel_rfl
def Zc9(A:Ar)(K:KT)(F:FT)(xs:List Int)(l0:List UInt8)(n1:Int):Prop:=bB (A.lt n1 (A.int (A.len xs))) (bB (A.lt 0 n1) (rB [A.inR .i64 (A.add n1 1),Nat.ble (A.lenS (A.appS l0 [32])+A.lenS (Go.Lib.itoa (A.nth xs (A.nat n1)))) 4294967296,decide (Zde (A.nth xs (A.nat n1))=true),Zah (Zah (A.le 0 n1) (Nat.blt (A.nat n1) (A.len xs))) true,Nat.ble (A.lenS l0+A.lenS [32]) 4294967296] (K (ZeF (xs) (A.appS (A.appS l0 [32]) (Go.Lib.itoa (A.nth xs (A.nat n1)))) (A.add n1 1)))) (rB [A.inR .i64 (A.add n1 1),Nat.ble (A.lenS l0+A.lenS (Go.Lib.itoa (A.nth xs (A.nat n1)))) 4294967296,decide (Zde (A.nth xs (A.nat n1))=true),Zah (Zah (A.le 0 n1) (Nat.blt (A.nat n1) (A.len xs))) true] (K (ZeF (xs) (A.appS l0 (Go.Lib.itoa (A.nth xs (A.nat n1)))) (A.add n1 1))))) (F (AV.str l0) (none))
theorem Zhz{A:Ar}{K:KT}{F:FT}{M:MT}{xs:List Int}{l0:List UInt8}{n1:Int} :Zat A tab N5 39 K F M (.run 9 (.tf (.run 9 (.tf (.run 23 (.hd)) (.run 19 (.hd)))) (.run 7 (.fn)))) (ZfS xs l0 n1) (Zeo xs l0 n1)=Zc9 A K F xs l0 n1:=by kernel_rfl
def Zwb(a b:Int)(xs:List Int):AFrame:={ fn:=17,N:=20,env:=[(0,AV.agg (Row.gen [AV.int .i64 a,AV.int .i64 b,AV.list (.ints .i64 xs)]))],todo:=[.code a17.code],defs:=[],rnd:=none,ret:=false,res:=[ARes.tmp 2] }
def ZCj(a b:Int)(xs:List Int):List AFrame:=[(Zwb a b xs)]
theorem Ztn(a b:Int)(xs:List Int):Zap tab 17 [AV.agg (Row.gen [AV.int .i64 a,AV.int .i64 b,AV.list (.ints .i64 xs)])]=some (Zwb a b xs):=rfl
def ZvF(A:Ar)(K:KT)(F:FT)(a b:Int)(xs:List Int):Prop:=bB (A.not (Zan a 0 255)) (F (AV.int .i64 2) (none)) (bB (A.not (Zan b 0 255)) (F (AV.int .i64 2) (none)) (bB (A.lt 40 (A.int (A.len xs))) (F (AV.int .i64 8) (none)) (rB [decide (List.length xs≤1000000)] (F (AV.int .i64 (ZaQ xs)) (none)))))
theorem ZyW{A:Ar}{K:KT}{F:FT}{M:MT}{a b:Int}{xs:List Int} :Zat A tab N5 17 K F M (.run 13 (.tf (.ty (.ty (.ty (.ty (.run 2 (.ty (.run 5 (.fn)))))))) (.fy (.fy (.fy (.fy (.run 2 (.tf (.run 5 (.fn)) (.run 9 (.tf (.run 5 (.fn)) (.run 9 (.fn)))))))))))) (ZCj a b xs) []=ZvF A K F a b xs:=by kernel_rfl
def Zww(n m a b c:Int)(xs:List Int):AFrame:={ fn:=18,N:=40,env:=[(0,AV.agg (Row.gen [AV.int .i64 n,AV.int .i64 m])),(1,AV.agg (Row.gen [AV.int .i64 a,AV.int .i64 b,AV.int .i64 c,AV.list (.ints .i64 xs)]))],todo:=[.code a18.code],defs:=[],rnd:=none,ret:=false,res:=[ARes.tmp 4] }
def ZCx(n m a b c:Int)(xs:List Int):List AFrame:=[(Zww n m a b c xs)]
theorem Zr3(n m a b c:Int)(xs:List Int):Zap tab 18 [AV.agg (Row.gen [AV.int .i64 n,AV.int .i64 m]),AV.agg (Row.gen [AV.int .i64 a,AV.int .i64 b,AV.int .i64 c,AV.list (.ints .i64 xs)])]=some (Zww n m a b c xs):=rfl
def ZwU(A:Ar)(K:KT)(F:FT)(n m a b c:Int)(xs:List Int):Prop:=rB [A.inR .i64 (A.sub m 1)] (bB (A.not (Zan a 0 (A.sub m 1))) (rB [A.not (A.eq 6 0)] (F (AV.int .i64 6) (none))) (rB [!A.not (A.eq 0 0)] (bB (A.not (Zan b 0 63)) (F (AV.int .i64 2) (none)) (rB [A.inR .i64 (A.sub n 1)] (bB (A.not (Zan c 0 (A.sub n 1))) (bB (A.not (A.eq c 255)) (F (AV.int .i64 2) (none)) (bB (A.not (A.eq (A.int (A.len xs)) n)) (F (AV.int .i64 10) (none)) (rB [decide (List.length xs≤1000000)] (F (AV.int .i64 (ZaQ xs)) (none))))) (bB (A.not (A.eq (A.int (A.len xs)) n)) (F (AV.int .i64 10) (none)) (rB [decide (List.length xs≤1000000)] (F (AV.int .i64 (ZaQ xs)) (none)))))))))
theorem Zzi{A:Ar}{K:KT}{F:FT}{M:MT}{n m a b c:Int}{xs:List Int} :Zat A tab N5 18 K F M (.run 28 (.tf (.run 13 (.ty (.run 6 (.fn)))) (.run 14 (.fy (.run 9 (.tf (.ty (.ty (.ty (.ty (.ty (.ty (.ty (.run 3 (.ty (.ty (.run 2 (.ty (.run 5 (.fn)))))))))))))) (.fy (.fy (.fy (.fy (.fy (.fy (.fy (.tf (.ty (.ty (.alt [false,true] (.fy (.run 2 (.tf (.run 5 (.fn)) (.run 11 (.tf (.run 5 (.fn)) (.run 9 (.fn))))))) (.no)))) (.fy (.fy (.alt [false,false] (.fy (.run 2 (.fy (.run 11 (.tf (.run 5 (.fn)) (.run 9 (.fn))))))) (.no)))))))))))))))))) (ZCx n m a b c xs) []=ZwU A K F n m a b c xs:=by kernel_rfl
def Zu8(a b c:Int)(xs:List Int)(a1 b1 c1:Int)(ys:List Int):AFrame:={ fn:=15,N:=31,env:=[(0,AV.agg (Row.gen [AV.int .i64 a,AV.int .i64 b,AV.int .i64 c,AV.list (.ints .i64 xs)])),(1,AV.agg (Row.gen [AV.int .i64 a1,AV.int .i64 b1,AV.int .i64 c1,AV.list (.ints .i64 ys)]))],todo:=[.code a15.code],defs:=[],rnd:=none,ret:=false,res:=[ARes.tmp 4] }
def ZC8(a b c:Int)(xs:List Int)(a1 b1 c1:Int)(ys:List Int):List AFrame:=[(Zu8 a b c xs a1 b1 c1 ys)]
theorem Zt0(a b c:Int)(xs:List Int)(a1 b1 c1:Int)(ys:List Int):Zap tab 15 [AV.agg (Row.gen [AV.int .i64 a,AV.int .i64 b,AV.int .i64 c,AV.list (.ints .i64 xs)]),AV.agg (Row.gen [AV.int .i64 a1,AV.int .i64 b1,AV.int .i64 c1,AV.list (.ints .i64 ys)])]=some (Zu8 a b c xs a1 b1 c1 ys):=rfl
def Zw5(A:Ar)(K:KT)(F:FT)(a b c:Int)(xs:List Int)(a1 b1 c1:Int)(ys:List Int):Prop:=bB (A.eq a a1) (bB (A.eq b b1) (bB (A.eq c c1) (rB [decide (List.length xs≤1000000)] (F (AV.bool (decide (xs=ys))) (none))) (F (AV.bool false) (none))) (F (AV.bool false) (none))) (F (AV.bool false) (none))
theorem Zzk{A:Ar}{K:KT}{F:FT}{M:MT}{a b c:Int}{xs:List Int}{a1 b1 c1:Int}{ys:List Int} :Zat A tab N5 15 K F M (.run 14 (.tf (.ty (.ty (.ty (.ty (.ty (.run 1 (.tf (.ty (.ty (.ty (.ty (.ty (.run 1 (.tf (.ty (.ty (.ty (.ty (.ty (.run 4 (.fn))))))) (.fy (.fy (.fy (.fy (.fy (.run 4 (.fn)))))))))))))) (.fy (.fy (.fy (.fy (.fy (.run 1 (.fy (.fy (.fy (.fy (.fy (.fy (.run 4 (.fn))))))))))))))))))))) (.fy (.fy (.fy (.fy (.fy (.run 1 (.fy (.fy (.fy (.fy (.fy (.fy (.run 1 (.fy (.fy (.fy (.fy (.fy (.fy (.run 4 (.fn))))))))))))))))))))))) (ZC8 a b c xs a1 b1 c1 ys) []=Zw5 A K F a b c xs a1 b1 c1 ys:=by kernel_rfl
def ZwV(a b:Int)(xs:List Int)(a1 b1:Int)(ys:List Int):AFrame:={ fn:=16,N:=24,env:=[(0,AV.agg (Row.gen [AV.int .i64 a,AV.int .i64 b,AV.list (.ints .i64 xs)])),(1,AV.agg (Row.gen [AV.int .i64 a1,AV.int .i64 b1,AV.list (.ints .i64 ys)]))],todo:=[.code a16.code],defs:=[],rnd:=none,ret:=false,res:=[ARes.tmp 4] }
def ZCr(a b:Int)(xs:List Int)(a1 b1:Int)(ys:List Int):List AFrame:=[(ZwV a b xs a1 b1 ys)]
theorem ZsB(a b:Int)(xs:List Int)(a1 b1:Int)(ys:List Int):Zap tab 16 [AV.agg (Row.gen [AV.int .i64 a,AV.int .i64 b,AV.list (.ints .i64 xs)]),AV.agg (Row.gen [AV.int .i64 a1,AV.int .i64 b1,AV.list (.ints .i64 ys)])]=some (ZwV a b xs a1 b1 ys):=rfl
def ZxR(A:Ar)(K:KT)(F:FT)(a b:Int)(xs:List Int)(a1 b1:Int)(ys:List Int):Prop:=bB (A.eq a a1) (bB (A.eq b b1) (rB [decide (List.length xs≤1000000)] (F (AV.bool (decide (xs=ys))) (none))) (F (AV.bool false) (none))) (F (AV.bool false) (none))
theorem ZyY{A:Ar}{K:KT}{F:FT}{M:MT}{a b:Int}{xs:List Int}{a1 b1:Int}{ys:List Int} :Zat A tab N5 16 K F M (.run 14 (.tf (.ty (.ty (.ty (.ty (.ty (.run 1 (.tf (.ty (.ty (.ty (.ty (.ty (.run 4 (.fn))))))) (.fy (.fy (.fy (.fy (.fy (.run 4 (.fn)))))))))))))) (.fy (.fy (.fy (.fy (.fy (.run 1 (.fy (.fy (.fy (.fy (.fy (.fy (.run 4 (.fn)))))))))))))))) (ZCr a b xs a1 b1 ys) []=ZxR A K F a b xs a1 b1 ys:=by kernel_rfl
def ZBf(a b c:Int)(xs:List Int):AFrame:={ fn:=6,N:=8,env:=[(0,AV.agg (Row.gen [AV.int .i64 a,AV.int .i64 b,AV.int .i64 c,AV.list (.ints .i64 xs)]))],todo:=[.code a6.code],defs:=[],rnd:=none,ret:=false,res:=[ARes.cell 2 true 4] }
def g6e(a b c:Int)(xs:List Int):List AFrame:=[(ZBf a b c xs)]
theorem ZuK(a b c:Int)(xs:List Int):Zap tab 6 [AV.agg (Row.gen [AV.int .i64 a,AV.int .i64 b,AV.int .i64 c,AV.list (.ints .i64 xs)])]=some (ZBf a b c xs):=rfl
def ZBn(A:Ar)(K:KT)(F:FT)(a b c:Int)(xs:List Int):Prop:=rB [decide (List.length xs≤1000000)] (F (AV.agg (Row.gen [.int .i64 a, .int .i64 b, .int .i64 c, .list (.ints .i64 xs)])) (none))
theorem ZCP{A:Ar}{K:KT}{F:FT}{M:MT}{a b c:Int}{xs:List Int} :Zat A tab N5 6 K F M (.run 19 (.fn)) (g6e a b c xs) []=ZBn A K F a b c xs:=by kernel_rfl
def ZBz(a b:Int)(xs:List Int):AFrame:={ fn:=8,N:=8,env:=[(0,AV.agg (Row.gen [AV.int .i64 a,AV.int .i64 b,AV.list (.ints .i64 xs)]))],todo:=[.code a8.code],defs:=[],rnd:=none,ret:=false,res:=[ARes.cell 2 true 3] }
def g8e(a b:Int)(xs:List Int):List AFrame:=[(ZBz a b xs)]
theorem ZwO(a b:Int)(xs:List Int):Zap tab 8 [AV.agg (Row.gen [AV.int .i64 a,AV.int .i64 b,AV.list (.ints .i64 xs)])]=some (ZBz a b xs):=rfl
def ZBD(A:Ar)(K:KT)(F:FT)(a b:Int)(xs:List Int):Prop:=rB [decide (List.length xs≤1000000)] (F (AV.agg (Row.gen [.int .i64 a, .int .i64 b, .list (.ints .i64 xs)])) (none))
theorem ZBY{A:Ar}{K:KT}{F:FT}{M:MT}{a b:Int}{xs:List Int} :Zat A tab N5 8 K F M (.run 19 (.fn)) (g8e a b xs) []=ZBD A K F a b xs:=by kernel_rfl
def Zwr(a:Int):AFrame:={ fn:=68,N:=5,env:=[(0,AV.int .i64 a)],todo:=[.code a68.code],defs:=[],rnd:=none,ret:=false,res:=[ARes.tmp 2] }
def ZC0(a:Int):List AFrame:=[(Zwr a)]
theorem Zr9(a:Int):Zap tab 68 [AV.int .i64 a]=some (Zwr a):=rfl
def Zvk(A:Ar)(K:KT)(F:FT)(a:Int):Prop:=bB (A.le 0 a) (F (AV.bool (A.le a 255)) (none)) (F (AV.bool false) (none))
theorem ZAc{A:Ar}{K:KT}{F:FT}{M:MT}{a:Int} :Zat A tab N5 68 K F M (.run 18 (.tf (.ty (.ty (.ty (.run 8 (.fn))))) (.fy (.fy (.fy (.run 8 (.fn))))))) (ZC0 a) []=Zvk A K F a:=by kernel_rfl
end Go.Proofs.YthfcimmcccocmaaGreatDoor
/- Contracts as a list. No condition. -/
namespace Go.Proofs.YthfcimmcccocmaaGreatDoor
def nsG(xs:List Int):Bool:=decide (xs.length≤1000)&&xs.all Zde
theorem nsG_iff{xs:List Int} :nsG xs=true↔xs.length≤1000∧∀x∈xs,Zde x=true:=by simp[nsG]
theorem Zm8(n:Int)(h:Zde n=true):(Lib.itoa n).length≤21:=by
 obtain⟨a,b⟩:=i64B_iff.1 h
 exact Lib.itoa_length_le n a b
theorem Znd(p x:List UInt8):∀xs:List (List UInt8),Lib.join (xs++[x]) p=if xs=[]then x else Lib.join xs p++p++x
 |[]=>by simp[Lib.join_one]
 |y::ys=>by
  rw[List.cons_append,Lib.join_cons,Lib.join_cons,if_neg (by simp)]
  simp[Lib.joinTail]
theorem Zol{xs:List Int}(h:nsG xs=true)(k:Nat):(Lib.join ((xs.take k).map Lib.itoa) [32]).length≤22000:=by
 obtain⟨h1,h2⟩:=nsG_iff.1 h
 have:=Zuq [32] 21 ((xs.take k).map Lib.itoa) (by
  intro x hx
  obtain⟨y,hy,rfl⟩:=List.mem_map.1 hx
  exact Zm8 y (h2 y (List.mem_of_mem_take hy)))
 rw[List.length_map,List.length_take]at this
 exact Nat.le_trans this (Nat.mul_le_mul_right 22 (show min k xs.length≤1000 by omega))
section
variable {C:Ctx}(hC:C.P=Tryz.prog)
include hC
theorem Zoc(xs:List Int)(hg:nsG xs=true):∀m k:Nat,k+m=xs.length→Ev C (ZfS xs (Lib.join ((xs.take k).map Lib.itoa) [32]) k) (Zeo xs (Lib.join ((xs.take k).map Lib.itoa) [32]) k) (ZdC 39 (.str (Lib.join (xs.map Lib.itoa) [32])) none)
 |0,k,hk=>tgo hC Zcc Zhz (by
  obtain rfl:k=xs.length:=by omega
  simp[Zc9])
 |m+1,k,hk=>by
  have ih:=Zoc xs hg m (k+1) (by omega)
  have hlt:(k:Int)<xs.length:=by omega
  have hlt2:k<xs.length:=by omega
  have hl:=Zol hg k
  obtain⟨h1,h2⟩:=nsG_iff.1 hg
  have h3:=h2 _ (ZdG (d:=0) hlt2)
  have h4:=Zm8 _ h3
  have hs:Lib.join ((xs.take (k+1)).map Lib.itoa) [32]=(if 0<k then Lib.join ((xs.take k).map Lib.itoa) [32]++[32]else Lib.join ((xs.take k).map Lib.itoa) [32])++Lib.itoa (xs.getD k 0):=by
   rw[Zf8 (d:=0) hlt2,List.map_append,List.map_singleton,Znd]
   by_cases hk0:0<k
   ·rw[if_neg (fun h=>by have:=congrArg List.length h;rw[List.length_map,List.length_take,List.length_nil]at this;omega),if_pos hk0]
   ·obtain rfl:k=0:=by omega
    simp[Lib.join_nil]
  rw[hs]at ih
  refine tgo hC Zcc Zhz ?_
  by_cases hk0:0<k
  ·rw[if_pos hk0]at ih
   simp[-List.getD_eq_getElem?_getD, -List.map_take,Zc9,hlt,hlt2,hk0,h3]
   exact⟨by omega,by simpa[-List.map_take]using ih⟩
  ·obtain rfl:k=0:=by omega
   simp[-List.getD_eq_getElem?_getD,Zc9,hlt2,Lib.join_nil,h3]at ih⊢
   exact⟨by omega,by simpa using ih⟩
theorem ZnA(l1:List Int)(hg:nsG l1=true):∀m k:Nat,k+m=l1.length→Ev C (ZgE l1.length l1 k ((l1.take k).map fun x=>.str (Lib.itoa x))) (Zeg l1.length l1 k ((l1.take k).map fun x=>.str (Lib.itoa x))) (ZdC 30 (.str (Lib.join (l1.map Lib.itoa) [32])) none)
 |0,k,hk=>tgo hC Zcc Zhq (by
  obtain rfl:k=l1.length:=by omega
  have hl:=Zol hg l1.length
  rw[List.take_length]at hl
  obtain⟨h1,h2⟩:=nsG_iff.1 hg
  have e:(l1.map fun x=>AV.str (Lib.itoa x)).map AV.toS=l1.map Lib.itoa:=by rw[List.map_map];rfl
  simp[-List.map_map,Zei,e]
  omega)
 |m+1,k,hk=>by
  have ih:=ZnA l1 hg m (k+1) (by omega)
  have hlt:(k:Int)<l1.length:=by omega
  have hlt2:k<l1.length:=by omega
  obtain⟨h1,h2⟩:=nsG_iff.1 hg
  have h3:=h2 _ (ZdG (d:=0) hlt2)
  rw[Zf8 (d:=0) hlt2,List.map_append,List.map_singleton]at ih
  refine tgo hC Zcc Zhq ?_
  simp[-List.getD_eq_getElem?_getD, -List.map_take,Zei,hlt,hlt2,h3,AV.bx,Zag]
  exact⟨by omega,by simpa[-List.map_take]using ih⟩
end
theorem ZiE(xs:List Int)(hg:nsG xs=true):Zae Tryz.prog 39 [.list (.ints .i64 xs)] (.str (Zar xs)) none:=
 start (Zsf xs) fun C hC=>tgo hC Zcc Zzl (by
  have:=Zoc hC xs hg xs.length 0 (by omega)
  unfold Zar
  simp[ZxK]
  simpa[Lib.join_nil]using this)
theorem Zju(xs ys:List Int)(hg:nsG (xs++ys)=true∧0<xs.length):Zae Tryz.prog 30 [.list (.ints .i64 xs), .list (.ints .i64 ys)] (.str (Zar (xs++ys))) none:=
 start (Zr4 xs ys) fun C hC=>tgo hC Zcc ZAV (by
  obtain⟨hg,h0⟩:=hg
  obtain⟨h1,h2⟩:=nsG_iff.1 hg
  have hl:(xs++ys).length=xs.length+ys.length:=List.length_append
  have hw:=ZnA hC (xs++ys) hg
  unfold Zar
  have ha:Ev C (Zgc ((xs++ys).length:Nat) (xs++ys)) (Zea ((xs++ys).length:Nat) (xs++ys)) (ZdC 30 (.str (Lib.join ((xs++ys).map Lib.itoa) [32])) none):=tgo hC Zcc ZmJ (by
   generalize xs++ys=l at*
   have hp:0<l.length:=by omega
   have h3:=h2 _ (ZdG (d:=0) hp)
   have:=hw (l.length-1) 1 (by omega)
   rw[Zf8 (k:=0) (d:=0) hp,List.map_append,List.map_singleton]at this
   simp[-List.getD_eq_getElem?_getD,ZhI,hp,h3,AV.bx,Zag]
   simpa using this)
  simp[ZuX,AV.bx,Zag]
  exact⟨by omega,by simpa using ha⟩)
theorem Zo2(a b c:Int)(xs:List Int)(h:xs.length≤1000000):Zae Tryz.prog 6 [.agg (.gen [.int .i64 a, .int .i64 b, .int .i64 c, .list (.ints .i64 xs)])] (.agg (.gen [.int .i64 a, .int .i64 b, .int .i64 c, .list (.ints .i64 xs)])) none:=
 start (ZuK a b c xs) fun C hC=>tgo hC Zcc ZCP (by simp[ZBn,h])
theorem Zpw(a b:Int)(xs:List Int)(h:xs.length≤1000000):Zae Tryz.prog 8 [.agg (.gen [.int .i64 a, .int .i64 b, .list (.ints .i64 xs)])] (.agg (.gen [.int .i64 a, .int .i64 b, .list (.ints .i64 xs)])) none:=
 start (ZwO a b xs) fun C hC=>tgo hC Zcc ZBY (by simp[ZBD,h])
def Zfb(a b c:Int)(xs:List Int)(a1 b1 c1:Int)(ys:List Int):Bool:=decide (a=a1∧b=b1∧c=c1∧xs=ys)
def Zgr(a b:Int)(xs:List Int)(a1 b1:Int)(ys:List Int):Bool:=decide (a=a1∧b=b1∧xs=ys)
theorem Zn1(a b c:Int)(xs:List Int)(a1 b1 c1:Int)(ys:List Int)(h:xs.length≤1000000):Zae Tryz.prog 15 [.agg (.gen [.int .i64 a, .int .i64 b, .int .i64 c, .list (.ints .i64 xs)]), .agg (.gen [.int .i64 a1, .int .i64 b1, .int .i64 c1, .list (.ints .i64 ys)])] (.bool (Zfb a b c xs a1 b1 c1 ys)) none:=
 start (Zt0 a b c xs a1 b1 c1 ys) fun C hC=>tgo hC Zcc Zzk (by
  by_cases h1:a=a1<;>by_cases h2:b=b1<;>by_cases h3:c=c1<;>simp[Zw5,h,h1,h2,h3,Zfb])
theorem Zog(a b:Int)(xs:List Int)(a1 b1:Int)(ys:List Int)(h:xs.length≤1000000):Zae Tryz.prog 16 [.agg (.gen [.int .i64 a, .int .i64 b, .list (.ints .i64 xs)]), .agg (.gen [.int .i64 a1, .int .i64 b1, .list (.ints .i64 ys)])] (.bool (Zgr a b xs a1 b1 ys)) none:=
 start (ZsB a b xs a1 b1 ys) fun C hC=>tgo hC Zcc ZyY (by
  by_cases h1:a=a1<;>by_cases h2:b=b1<;>simp[ZxR,h,h1,h2,Zgr])
def pkE(a b:Int)(xs:List Int):Int:=if Zan a 0 255=true then(if Zan b 0 255=true then(if xs.length≤40 then ZaQ xs else 8)else 2)else 2
theorem Znq(a b:Int)(xs:List Int)(h:xs.length≤1000000):Zae Tryz.prog 17 [.agg (.gen [.int .i64 a, .int .i64 b, .list (.ints .i64 xs)])] (.int .i64 (pkE a b xs)) none:=
 start (Ztn a b xs) fun C hC=>tgo hC Zcc ZyW (by
  by_cases h1:Zan a 0 255=true<;>by_cases h2:Zan b 0 255=true<;>by_cases h3:xs.length≤40<;>simp[ZvF,h,h1,h2,h3,pkE,show((40:Int)<xs.length)↔¬xs.length≤40 by omega])
def frE(n m a b c:Int)(xs:List Int):Int:=if Zan a 0 (m-1)=true then(if Zan b 0 63=true then(if Zan c 0 (n-1)=true∨c=255 then(if (xs.length:Int)=n then ZaQ xs else 10)else 2)else 2)else 6
theorem ZmX(n m a b c:Int)(xs:List Int)(h:xs.length≤1000000∧(-1000000≤n∧n≤1000000)∧ -1000000≤m∧m≤1000000):Zae Tryz.prog 18 [.agg (.gen [.int .i64 n, .int .i64 m]), .agg (.gen [.int .i64 a, .int .i64 b, .int .i64 c, .list (.ints .i64 xs)])] (.int .i64 (frE n m a b c xs)) none:=
 start (Zr3 n m a b c xs) fun C hC=>tgo hC Zcc Zzi (by
  obtain⟨h0,hn,hm⟩:=h
  have r1:std.inR .i64 (m-1)=true:=decide_eq_true ⟨by show(-9223372036854775808:Int)≤_;omega,by show _≤(9223372036854775807:Int);omega⟩
  have r2:std.inR .i64 (n-1)=true:=decide_eq_true ⟨by show(-9223372036854775808:Int)≤_;omega,by show _≤(9223372036854775807:Int);omega⟩
  by_cases h1:Zan a 0 (m-1)=true<;>by_cases h2:Zan b 0 63=true<;>by_cases h3:Zan c 0 (n-1)=true<;>by_cases h4:c=255<;>by_cases h5:(xs.length:Int)=n<;>simp_all[ZwU,frE]<;>omega)
theorem ZnF(a:Int):Zae Tryz.prog 68 [.int .i64 a] (.bool (Zan a 0 255)) none:=
 start (Zr9 a) fun C hC=>tgo hC Zcc ZAc (by
  by_cases h:0≤a<;>simp[Zvk,h,Zan])
def Zih(x:AV):Bool:=ZgJ x.toS 3&&decide (0≤Za9 x.toS 3)
theorem Zob(w:List UInt8):okW w=(ZgJ w 3&&decide (0≤Za9 w 3))∧(okW w=true→ZaZ w=Za9 w 3):=by
 have:=Zrg w 3 (by decide)
 unfold okW ZgJ Za9
 exact this
section
variable {C:Ctx}(hC:C.P=Tryz.prog)(few:Int)(w:List AV)(hl:w.length≤1000001)(hw:∀x∈w,x.toS.length≤1000000)
include hC hl hw
theorem ZBh:∀(m k:Nat) (xs:List Int),k+m=w.length→xs.length=k→Ev C (Zf5 few w k xs) (Zeu few w k xs) (Zqh 37 (ZpQ ((w.drop k).all Zih) (xs++(w.drop k).map fun x=>Za9 x.toS 3) few))
 |0,k,xs,hk,hx=>ZrL hC Zcc ZgW (by
  obtain rfl:k=w.length:=by omega
  simp[-List.getD_eq_getElem?_getD,ZbV]
  exact rdR _ _ _ _ _ rfl rfl rfl)
 |m+1,k,xs,hk,hx=>by
  have ih:=fun xs hx=>ZBh m (k+1) xs (by omega) hx
  have hlt:(k:Int)<w.length:=by omega
  have hlt2:k<w.length:=by omega
  have hin:=hw _ (ZdG (d:=.top) hlt2)
  have e:w.drop k=w.getD k .top::w.drop (k+1):=by
   rw[List.drop_eq_getElem_cons hlt2,List.getD_eq_getElem?_getD,List.getElem?_eq_getElem hlt2];rfl
  rw[e,List.all_cons,List.map_cons]
  refine ZrL hC Zcc ZgW ?_
  by_cases h1:ZgJ (w.getD k .top).toS 3=true
  ·by_cases h2:Za9 (w.getD k .top).toS 3<0
   ·have h3:Zih (w.getD k .top)=false:=by unfold Zih;rw[h1,decide_eq_false (by omega)];rfl
    simp[-List.getD_eq_getElem?_getD,ZbV,hlt,hlt2,h1,h2,hin]
    exact rdN _ _ _ (by rw[h3];rfl)
   ·have h3:Zih (w.getD k .top)=true:=by unfold Zih;rw[h1,decide_eq_true (by omega)];rfl
    have:=ih (xs++[Za9 (w.getD k .top).toS 3]) (by simp[hx])
    rw[List.append_assoc,List.singleton_append]at this
    rw[h3,Bool.true_and]
    simp[-List.getD_eq_getElem?_getD,ZbV,hlt,hlt2,h1,h2,hin,AV.bx,Zag]
    exact⟨by omega,by simpa using this⟩
  ·have h3:Zih (w.getD k .top)=false:=by unfold Zih;simp[-List.getD_eq_getElem?_getD,h1]
   simp[-List.getD_eq_getElem?_getD,ZbV,hlt,hlt2,h1,hin]
   exact rdN _ _ _ (by rw[h3];rfl)
theorem ZCV(h0:0<w.length):Ev C (Zgk few w) (Zd1 few w) (Zqh 37 (ZpQ (w.all Zih) (w.map fun x=>Za9 x.toS 3) few)):=by
 have hin:=hw _ (ZdG (d:=.top) h0)
 have hb:=ZBh hC few w hl hw (w.length-1) 1 [Za9 (w.getD 0 .top).toS 3] (by omega) rfl
 have e:w=w.getD 0 .top::w.drop 1:=by
  cases w with
  |nil=>simp at h0
  |cons a r=>rfl
 have ea:w.all Zih=(Zih (w.getD 0 .top)&&(w.drop 1).all Zih):=by conv=>lhs;rw[e];rw[List.all_cons]
 have em:(w.map fun x=>Za9 x.toS 3)=Za9 (w.getD 0 .top).toS 3::(w.drop 1).map fun x=>Za9 x.toS 3:=by conv=>lhs;rw[e];rw[List.map_cons]
 rw[ea,em]
 refine ZrL hC Zcc ZmH ?_
 by_cases h1:ZgJ (w.getD 0 .top).toS 3=true
 ·by_cases h2:Za9 (w.getD 0 .top).toS 3<0
  ·have h3:Zih (w.getD 0 .top)=false:=by unfold Zih;rw[h1,decide_eq_false (by omega)];rfl
   simp[-List.getD_eq_getElem?_getD, -List.drop_one,Zc3,h0,h1,h2,hin]
   exact rdN _ _ _ (by rw[h3];rfl)
  ·have h3:Zih (w.getD 0 .top)=true:=by unfold Zih;rw[h1,decide_eq_true (by omega)];rfl
   rw[h3,Bool.true_and]
   simp[-List.getD_eq_getElem?_getD, -List.drop_one,Zc3,h0,h1,h2,hin,AV.bx,Zag]
   simpa[-List.drop_one]using hb
 ·have h3:Zih (w.getD 0 .top)=false:=by unfold Zih;simp[-List.getD_eq_getElem?_getD,h1]
  simp[-List.getD_eq_getElem?_getD, -List.drop_one,Zc3,h0,h1,hin]
  exact rdN _ _ _ (by rw[h3];rfl)
end
theorem ZhZ(c:UInt8):∀s,(Zbg c s).length≤s.length+1
 |[]=>by simp[Zbg]
 |b::s=>by
  have ih:=ZhZ c s
  rw[Zbg]
  split
  ·simp;omega
  ·split
   ·simp
   ·rename_i x r h
    rw[h]at ih
    simp at ih ⊢;omega
theorem Zlo(c:UInt8):∀(s:List UInt8) x,x∈Zbg c s→x.length≤s.length
 |[],x,h=>by simp[Zbg]at h;simp[h]
 |b::s,x,h=>by
  have ih:=Zlo c s
  rw[Zbg]at h
  split at h
  ·rcases List.mem_cons.1 h with rfl |h
   ·simp
   ·have:=ih x h;simp;omega
  ·split at h
   ·simp at h;simp[h]
   ·rename_i y ys e
    rcases List.mem_cons.1 h with rfl |h
    ·have:=ih y (by rw[e];exact List.mem_cons_self);simp;omega
    ·have:=ih x (by rw[e];exact List.mem_cons_of_mem _ h);simp;omega
theorem Zqo{l:List (List UInt8)}{w:List AV}(hm:w.map AV.toS=l):w.all Zih=l.all okW∧(l.all okW=true→(w.map fun x=>Za9 x.toS 3)=l.map ZaZ):=by
 subst hm
 constructor
 ·rw[List.all_map]
  refine List.all_congr rfl fun x=>?_
  exact(Zob x.toS).1.symm
 ·intro h
  rw[List.map_map]
  refine List.map_congr_left fun x hx=>?_
  have:=List.all_eq_true.1 h x.toS (List.mem_map_of_mem hx)
  exact((Zob x.toS).2 this).symm
theorem ZjM(s:List UInt8)(few:Int)(h:s.length<1000000):Zae Tryz.prog 37 [.str s, .int .i64 few] (.tup [.list (.ints .i64 (rdL s)), .bool (rdB s few)]) ZuA:=by
 have hm:=Zqp s 32
 rw[show (((32:UInt8).toNat:Nat):Int)=32 from rfl]at hm
 have hl:=congrArg List.length hm
 rw[List.length_map]at hl
 have h1:=ZhZ 32 s
 have h2:0<(Zbg 32 s).length:=List.length_pos_iff.2 (Zid 32 s)
 have hw:∀x∈Zoo s 32,x.toS.length≤1000000:=fun x hx=>by
  have:=Zlo 32 s x.toS (by rw[←hm];exact List.mem_map_of_mem hx)
  omega
 obtain⟨a1,a2⟩:=Zqo hm
 have er:(AV.tup [.list (.ints .i64 (rdL s)), .bool (rdB s few)])=ZpQ ((Zoo s 32).all Zih) ((Zoo s 32).map fun x=>Za9 x.toS 3) few:=by
  unfold rdL rdB ZpQ
  rw[a1]
  cases hb:(Zbg 32 s).all okW with
  |true=>rw[a2 hb]
  |false=>simp
 rw[er]
 exact ZrS (Zum s few) fun C hC=>ZrL hC Zcc ZAY (by
  have:=ZCV hC few (Zoo s 32) (by omega) hw (by omega)
  simpa[ZwI,show s.length≤1000000 by omega]using this)
def k30:Ctr:=⟨30,0,fun _ a=>match a with |[.list (.ints .i64 xs), .list (.ints .i64 ys)]=>some (decide (nsG (xs++ys)=true∧0<xs.length), .str (Zar (xs++ys)),none) |_=>none⟩
theorem ZvW:k30.OK Tryz.prog:=fun pa args r fr h=>by
 simp only[k30]at h
 split at h
 ·simp only[Option.some.injEq,Prod.mk.injEq,decide_eq_true_eq]at h
  obtain⟨h0,rfl,rfl⟩:=h
  exact Zju _ _ h0
 ·cases h
def k39:Ctr:=⟨39,0,fun _ a=>match a with |[.list (.ints .i64 xs)]=>some (decide (nsG xs=true), .str (Zar xs),none) |_=>none⟩
theorem ZwP:k39.OK Tryz.prog:=fun pa args r fr h=>by
 simp only[k39]at h
 split at h
 ·simp only[Option.some.injEq,Prod.mk.injEq,decide_eq_true_eq]at h
  obtain⟨h0,rfl,rfl⟩:=h
  exact ZiE _ h0
 ·cases h
def k37:Ctr:=⟨37,0,fun _ a=>match a with |[.str s, .int .i64 few]=>some (decide (s.length<1000000), .tup [.list (.ints .i64 (rdL s)), .bool (rdB s few)],ZuA) |_=>none⟩
theorem ZuO:k37.OK Tryz.prog:=fun pa args r fr h=>by
 simp only[k37]at h
 split at h
 ·simp only[Option.some.injEq,Prod.mk.injEq,decide_eq_true_eq]at h
  obtain⟨h0,rfl,rfl⟩:=h
  exact ZjM _ _ h0
 ·cases h
def k6:Ctr:=⟨6,0,fun _ a=>match a with |[.agg (.gen [.int .i64 a, .int .i64 b, .int .i64 c, .list (.ints .i64 xs)])]=>some (decide (xs.length≤1000000), .agg (.gen [.int .i64 a, .int .i64 b, .int .i64 c, .list (.ints .i64 xs)]),none) |_=>none⟩
theorem ZyS:k6.OK Tryz.prog:=fun pa args r fr h=>by
 simp only[k6]at h
 split at h
 ·simp only[Option.some.injEq,Prod.mk.injEq,decide_eq_true_eq]at h
  obtain⟨h0,rfl,rfl⟩:=h
  exact Zo2 _ _ _ _ h0
 ·cases h
def k8:Ctr:=⟨8,0,fun _ a=>match a with |[.agg (.gen [.int .i64 a, .int .i64 b, .list (.ints .i64 xs)])]=>some (decide (xs.length≤1000000), .agg (.gen [.int .i64 a, .int .i64 b, .list (.ints .i64 xs)]),none) |_=>none⟩
theorem ZzQ:k8.OK Tryz.prog:=fun pa args r fr h=>by
 simp only[k8]at h
 split at h
 ·simp only[Option.some.injEq,Prod.mk.injEq,decide_eq_true_eq]at h
  obtain⟨h0,rfl,rfl⟩:=h
  exact Zpw _ _ _ h0
 ·cases h
def k15:Ctr:=⟨15,0,fun _ a=>match a with |[.agg (.gen [.int .i64 a, .int .i64 b, .int .i64 c, .list (.ints .i64 xs)]), .agg (.gen [.int .i64 a1, .int .i64 b1, .int .i64 c1, .list (.ints .i64 ys)])]=>some (decide (xs.length≤1000000), .bool (Zfb a b c xs a1 b1 c1 ys),none) |_=>none⟩
theorem Zvs:k15.OK Tryz.prog:=fun pa args r fr h=>by
 simp only[k15]at h
 split at h
 ·simp only[Option.some.injEq,Prod.mk.injEq,decide_eq_true_eq]at h
  obtain⟨h0,rfl,rfl⟩:=h
  exact Zn1 _ _ _ _ _ _ _ _ h0
 ·cases h
def k16:Ctr:=⟨16,0,fun _ a=>match a with |[.agg (.gen [.int .i64 a, .int .i64 b, .list (.ints .i64 xs)]), .agg (.gen [.int .i64 a1, .int .i64 b1, .list (.ints .i64 ys)])]=>some (decide (xs.length≤1000000), .bool (Zgr a b xs a1 b1 ys),none) |_=>none⟩
theorem ZuL:k16.OK Tryz.prog:=fun pa args r fr h=>by
 simp only[k16]at h
 split at h
 ·simp only[Option.some.injEq,Prod.mk.injEq,decide_eq_true_eq]at h
  obtain⟨h0,rfl,rfl⟩:=h
  exact Zog _ _ _ _ _ _ h0
 ·cases h
def k17:Ctr:=⟨17,0,fun _ a=>match a with |[.agg (.gen [.int .i64 a, .int .i64 b, .list (.ints .i64 xs)])]=>some (decide (xs.length≤1000000), .int .i64 (pkE a b xs),none) |_=>none⟩
theorem Zu2:k17.OK Tryz.prog:=fun pa args r fr h=>by
 simp only[k17]at h
 split at h
 ·simp only[Option.some.injEq,Prod.mk.injEq,decide_eq_true_eq]at h
  obtain⟨h0,rfl,rfl⟩:=h
  exact Znq _ _ _ h0
 ·cases h
def k18:Ctr:=⟨18,0,fun _ a=>match a with |[.agg (.gen [.int .i64 n, .int .i64 m]), .agg (.gen [.int .i64 a, .int .i64 b, .int .i64 c, .list (.ints .i64 xs)])]=>some (decide (xs.length≤1000000∧(-1000000≤n∧n≤1000000)∧ -1000000≤m∧m≤1000000), .int .i64 (frE n m a b c xs),none) |_=>none⟩
theorem Zvw:k18.OK Tryz.prog:=fun pa args r fr h=>by
 simp only[k18]at h
 split at h
 ·simp only[Option.some.injEq,Prod.mk.injEq,decide_eq_true_eq]at h
  obtain⟨h0,rfl,rfl⟩:=h
  exact ZmX _ _ _ _ _ _ h0
 ·cases h
def k68:Ctr:=⟨68,0,fun _ a=>match a with |[.int .i64 a]=>some (true, .bool (Zan a 0 255),none) |_=>none⟩
theorem ZvR:k68.OK Tryz.prog:=fun pa args r fr h=>by
 simp only[k68]at h
 split at h
 ·cases h
  exact ZnF _
 ·cases h
def N6:List Ctr:=[k30,k39,k37,k6,k8,k15,k16,k17,k18,k68]++N5
theorem ZlY:ZaL Tryz.prog N6:=⟨ZvW,⟨ZwP,⟨ZuO,⟨ZyS,⟨ZzQ,⟨Zvs,⟨ZuL,⟨Zu2,⟨Zvw,⟨ZvR,Zcc⟩⟩⟩⟩⟩⟩⟩⟩⟩⟩
end Go.Proofs.YthfcimmcccocmaaGreatDoor
/- Paths of functions, printed by the explorer (Gx). No condition. -/
namespace Go.Proofs.YthfcimmcccocmaaGreatDoor
set_option maxRecDepth 100000
set_option linter.unusedVariables false
def ZBk(a b c:Int)(xs:List Int):AFrame:={ fn:=5,N:=13,env:=[(0,AV.agg (Row.gen [AV.int .i64 a,AV.int .i64 b,AV.int .i64 c,AV.list (.ints .i64 xs)]))],todo:=[.code a5.code],defs:=[],rnd:=none,ret:=false,res:=[ARes.tmp 2] }
def g5e(a b c:Int)(xs:List Int):List AFrame:=[(ZBk a b c xs)]
theorem Zxp(a b c:Int)(xs:List Int):Zap tab 5 [AV.agg (Row.gen [AV.int .i64 a,AV.int .i64 b,AV.int .i64 c,AV.list (.ints .i64 xs)])]=some (ZBk a b c xs):=rfl
def ZA9(A:Ar)(K:KT)(F:FT)(a b c:Int)(xs:List Int):Prop:=rB [decide (nsG ([a,b,c]++xs)=true∧0<List.length [a,b,c]),List.all [AV.int .i64 a,AV.int .i64 b,AV.int .i64 c] fun x=>AV.bx x&&Nat.beq (Zag A x) 1] (F (AV.str (Zar (a::List.append [b,c] xs))) (none))
theorem ZBP{A:Ar}{K:KT}{F:FT}{M:MT}{a b c:Int}{xs:List Int} :Zat A tab N6 5 K F M (.run 21 (.fn)) (g5e a b c xs) []=ZA9 A K F a b c xs:=by kernel_rfl
def ZBr(a b:Int)(xs:List Int):AFrame:={ fn:=7,N:=11,env:=[(0,AV.agg (Row.gen [AV.int .i64 a,AV.int .i64 b,AV.list (.ints .i64 xs)]))],todo:=[.code a7.code],defs:=[],rnd:=none,ret:=false,res:=[ARes.tmp 2] }
def g7e(a b:Int)(xs:List Int):List AFrame:=[(ZBr a b xs)]
theorem Zv3(a b:Int)(xs:List Int):Zap tab 7 [AV.agg (Row.gen [AV.int .i64 a,AV.int .i64 b,AV.list (.ints .i64 xs)])]=some (ZBr a b xs):=rfl
def ZBv(A:Ar)(K:KT)(F:FT)(a b:Int)(xs:List Int):Prop:=rB [decide (nsG ([a,b]++xs)=true∧0<List.length [a,b]),List.all [AV.int .i64 a,AV.int .i64 b] fun x=>AV.bx x&&Nat.beq (Zag A x) 1] (F (AV.str (Zar (a::List.append [b] xs))) (none))
theorem ZC4{A:Ar}{K:KT}{F:FT}{M:MT}{a b:Int}{xs:List Int} :Zat A tab N6 7 K F M (.run 19 (.fn)) (g7e a b xs) []=ZBv A K F a b xs:=by kernel_rfl
def Zvz(a b c:Int)(xs:List Int):AFrame:={ fn:=13,N:=14,env:=[(0,AV.agg (Row.gen [AV.int .i64 a,AV.int .i64 b,AV.int .i64 c,AV.list (.ints .i64 xs)]))],todo:=[.code a13.code],defs:=[],rnd:=none,ret:=false,res:=[ARes.tmp 2] }
def ZCX(a b c:Int)(xs:List Int):List AFrame:=[(Zvz a b c xs)]
theorem Zsa(a b c:Int)(xs:List Int):Zap tab 13 [AV.agg (Row.gen [AV.int .i64 a,AV.int .i64 b,AV.int .i64 c,AV.list (.ints .i64 xs)])]=some (Zvz a b c xs):=rfl
def ZxC(A:Ar)(K:KT)(F:FT)(a b c:Int)(xs:List Int):Prop:=rB [decide (nsG (A.app [a,b,c] xs)=true),Nat.ble (A.len [a,b,c]+A.len xs) 4294967296,List.all [AV.int .i64 a,AV.int .i64 b,AV.int .i64 c] fun x=>AV.bx x&&Nat.beq (Zag A x) 1] (F (AV.str (Zar (A.app [a,b,c] xs))) (none))
theorem Zzs{A:Ar}{K:KT}{F:FT}{M:MT}{a b c:Int}{xs:List Int} :Zat A tab N6 13 K F M (.run 22 (.fn)) (ZCX a b c xs) []=ZxC A K F a b c xs:=by kernel_rfl
def Zxo(a b:Int)(xs:List Int):AFrame:={ fn:=14,N:=12,env:=[(0,AV.agg (Row.gen [AV.int .i64 a,AV.int .i64 b,AV.list (.ints .i64 xs)]))],todo:=[.code a14.code],defs:=[],rnd:=none,ret:=false,res:=[ARes.tmp 2] }
def ZCC(a b:Int)(xs:List Int):List AFrame:=[(Zxo a b xs)]
theorem Zun(a b:Int)(xs:List Int):Zap tab 14 [AV.agg (Row.gen [AV.int .i64 a,AV.int .i64 b,AV.list (.ints .i64 xs)])]=some (Zxo a b xs):=rfl
def Zwh(A:Ar)(K:KT)(F:FT)(a b:Int)(xs:List Int):Prop:=rB [decide (nsG (A.app [a,b] xs)=true),Nat.ble (A.len [a,b]+A.len xs) 4294967296,List.all [AV.int .i64 a,AV.int .i64 b] fun x=>AV.bx x&&Nat.beq (Zag A x) 1] (F (AV.str (Zar (A.app [a,b] xs))) (none))
theorem Zzh{A:Ar}{K:KT}{F:FT}{M:MT}{a b:Int}{xs:List Int} :Zat A tab N6 14 K F M (.run 20 (.fn)) (ZCC a b xs) []=Zwh A K F a b xs:=by kernel_rfl
def ZwG(a b:Int)(xs:List Int):AFrame:={ fn:=36,N:=22,env:=[(0,AV.agg (Row.gen [AV.int .i64 a,AV.int .i64 b,AV.list (.ints .i64 xs)]))],todo:=[.code a36.code],defs:=[],rnd:=none,ret:=false,res:=[ARes.tmp 2] }
def ZCH(a b:Int)(xs:List Int):List AFrame:=[(ZwG a b xs)]
theorem ZsG(a b:Int)(xs:List Int):Zap tab 36 [AV.agg (Row.gen [AV.int .i64 a,AV.int .i64 b,AV.list (.ints .i64 xs)])]=some (ZwG a b xs):=rfl
def ZvK(A:Ar)(K:KT)(F:FT)(a b:Int)(xs:List Int):Prop:=qB [decide (List.length [ZaK (Zan b 0 255) 2,ZaK (A.le (A.int (A.len xs)) 40) 8,ZaQ xs]≤1000000),List.all [AV.int .i64 (ZaK (Zan b 0 255) 2),AV.int .i64 (ZaK (A.le (A.int (A.len xs)) 40) 8),AV.int .i64 (ZaQ xs)] fun x=>AV.bx x&&Nat.beq (Zag A x) 1,decide (List.length xs≤1000000),Zan a 0 255] (F (AV.int .i64 (ZbL [ZaK (Zan b 0 255) 2,ZaK (A.le (A.int (A.len xs)) 40) 8,ZaQ xs])) (none)) (rB [decide (List.length [2,ZaK (A.le (A.int (A.len xs)) 40) 8,ZaQ xs]≤1000000),List.all [AV.int .i64 2,AV.int .i64 (ZaK (A.le (A.int (A.len xs)) 40) 8),AV.int .i64 (ZaQ xs)] fun x=>AV.bx x&&Nat.beq (Zag A x) 1,decide (List.length xs≤1000000),!Zan a 0 255] (F (AV.int .i64 (ZbL [2,ZaK (A.le (A.int (A.len xs)) 40) 8,ZaQ xs])) (none)))
theorem ZAX{A:Ar}{K:KT}{F:FT}{M:MT}{a b:Int}{xs:List Int} :Zat A tab N6 36 K F M (.run 6 (.tf (.run 2 (.fn)) (.run 2 (.fn)))) (ZCH a b xs) []=ZvK A K F a b xs:=by kernel_rfl
end Go.Proofs.YthfcimmcccocmaaGreatDoor
/- Contracts as a list. No condition. -/
namespace Go.Proofs.YthfcimmcccocmaaGreatDoor
theorem ZtH(a b c:Int)(xs:List Int)(h:nsG ([a,b,c]++xs)=true):Zae Tryz.prog 5 [.agg (.gen [.int .i64 a, .int .i64 b, .int .i64 c, .list (.ints .i64 xs)])] (.str (Zar ([a,b,c]++xs))) none:=
 start (Zxp a b c xs) fun C hC=>tgo hC ZlY ZBP (by
  have h':nsG (a::b::c::xs)=true:=h
  have e:a::List.append [b,c] xs=[a,b,c]++xs:=rfl
  simp only[ZA9,e]
  simp[h',AV.bx,Zag])
theorem Ztf(a b:Int)(xs:List Int)(h:nsG ([a,b]++xs)=true):Zae Tryz.prog 7 [.agg (.gen [.int .i64 a, .int .i64 b, .list (.ints .i64 xs)])] (.str (Zar ([a,b]++xs))) none:=
 start (Zv3 a b xs) fun C hC=>tgo hC ZlY ZC4 (by
  have h':nsG (a::b::xs)=true:=h
  have e:a::List.append [b] xs=[a,b]++xs:=rfl
  simp only[ZBv,e]
  simp[h',AV.bx,Zag])
theorem Zrk(a b c:Int)(xs:List Int)(h:nsG ([a,b,c]++xs)=true):Zae Tryz.prog 13 [.agg (.gen [.int .i64 a, .int .i64 b, .int .i64 c, .list (.ints .i64 xs)])] (.str (Zar ([a,b,c]++xs))) none:=
 start (Zsa a b c xs) fun C hC=>tgo hC ZlY Zzs (by
  have h':nsG (a::b::c::xs)=true:=h
  have hl:=(nsG_iff.1 h).1
  simp only[List.length_append,List.length_cons,List.length_nil]at hl
  simp only[ZxC]
  simp[h',AV.bx,Zag]
  omega)
theorem Zpm(a b:Int)(xs:List Int)(h:nsG ([a,b]++xs)=true):Zae Tryz.prog 14 [.agg (.gen [.int .i64 a, .int .i64 b, .list (.ints .i64 xs)])] (.str (Zar ([a,b]++xs))) none:=
 start (Zun a b xs) fun C hC=>tgo hC ZlY Zzh (by
  have h':nsG (a::b::xs)=true:=h
  have hl:=(nsG_iff.1 h).1
  simp only[List.length_append,List.length_cons,List.length_nil]at hl
  simp only[Zwh]
  simp[h',AV.bx,Zag]
  omega)
theorem ZnW(a b:Int)(xs:List Int)(h:xs.length≤1000000):Zae Tryz.prog 36 [.agg (.gen [.int .i64 a, .int .i64 b, .list (.ints .i64 xs)])] (.int .i64 (pkE a b xs)) none:=
 start (ZsG a b xs) fun C hC=>tgo hC ZlY ZAX (by
  by_cases h1:Zan a 0 255=true<;>by_cases h2:Zan b 0 255=true<;>by_cases h3:xs.length≤40<;>simp[ZvK,h,h1,h2,h3,pkE,ZbL,ZaK,AV.bx,Zag,show((xs.length:Int)≤40)↔xs.length≤40 by omega]<;>exact fun h=>h.symm)
def k5:Ctr:=⟨5,0,fun _ a=>match a with |[.agg (.gen [.int .i64 a, .int .i64 b, .int .i64 c, .list (.ints .i64 xs)])]=>some (decide (nsG ([a,b,c]++xs)=true), .str (Zar ([a,b,c]++xs)),none) |_=>none⟩
theorem Zy1:k5.OK Tryz.prog:=fun pa args r fr h=>by
 simp only[k5]at h
 split at h
 ·simp only[Option.some.injEq,Prod.mk.injEq,decide_eq_true_eq]at h
  obtain⟨h0,rfl,rfl⟩:=h
  exact ZtH _ _ _ _ h0
 ·cases h
def k7:Ctr:=⟨7,0,fun _ a=>match a with |[.agg (.gen [.int .i64 a, .int .i64 b, .list (.ints .i64 xs)])]=>some (decide (nsG ([a,b]++xs)=true), .str (Zar ([a,b]++xs)),none) |_=>none⟩
theorem Zzp:k7.OK Tryz.prog:=fun pa args r fr h=>by
 simp only[k7]at h
 split at h
 ·simp only[Option.some.injEq,Prod.mk.injEq,decide_eq_true_eq]at h
  obtain⟨h0,rfl,rfl⟩:=h
  exact Ztf _ _ _ h0
 ·cases h
def k13:Ctr:=⟨13,0,fun _ a=>match a with |[.agg (.gen [.int .i64 a, .int .i64 b, .int .i64 c, .list (.ints .i64 xs)])]=>some (decide (nsG ([a,b,c]++xs)=true), .str (Zar ([a,b,c]++xs)),none) |_=>none⟩
theorem ZwZ:k13.OK Tryz.prog:=fun pa args r fr h=>by
 simp only[k13]at h
 split at h
 ·simp only[Option.some.injEq,Prod.mk.injEq,decide_eq_true_eq]at h
  obtain⟨h0,rfl,rfl⟩:=h
  exact Zrk _ _ _ _ h0
 ·cases h
def k14:Ctr:=⟨14,0,fun _ a=>match a with |[.agg (.gen [.int .i64 a, .int .i64 b, .list (.ints .i64 xs)])]=>some (decide (nsG ([a,b]++xs)=true), .str (Zar ([a,b]++xs)),none) |_=>none⟩
theorem Zxe:k14.OK Tryz.prog:=fun pa args r fr h=>by
 simp only[k14]at h
 split at h
 ·simp only[Option.some.injEq,Prod.mk.injEq,decide_eq_true_eq]at h
  obtain⟨h0,rfl,rfl⟩:=h
  exact Zpm _ _ _ h0
 ·cases h
def k36:Ctr:=⟨36,0,fun _ a=>match a with |[.agg (.gen [.int .i64 a, .int .i64 b, .list (.ints .i64 xs)])]=>some (decide (xs.length≤1000000), .int .i64 (pkE a b xs),none) |_=>none⟩
theorem Zws:k36.OK Tryz.prog:=fun pa args r fr h=>by
 simp only[k36]at h
 split at h
 ·simp only[Option.some.injEq,Prod.mk.injEq,decide_eq_true_eq]at h
  obtain⟨h0,rfl,rfl⟩:=h
  exact ZnW _ _ _ h0
 ·cases h
def N7:List Ctr:=[k5,k7,k13,k14,k36]++N6
theorem ZnT:ZaL Tryz.prog N7:=⟨Zy1,⟨Zzp,⟨ZwZ,⟨Zxe,⟨Zws,ZlY⟩⟩⟩⟩⟩
end Go.Proofs.YthfcimmcccocmaaGreatDoor
/- Paths of functions, printed by the explorer (Gx). No condition. -/
namespace Go.Proofs.YthfcimmcccocmaaGreatDoor
set_option maxRecDepth 100000
set_option linter.unusedVariables false
def ZBm(s:List UInt8):AFrame:={ fn:=9,N:=44,env:=[(0,AV.str s)],todo:=[.code a9.code],defs:=[],rnd:=none,ret:=false,res:=[ARes.cell 2 true 4,ARes.tmp 3] }
def g9e(s:List UInt8):List AFrame:=[(ZBm s)]
theorem ZvE(s:List UInt8):Zap tab 9 [AV.str s]=some (ZBm s):=rfl
def ZvG(A:Ar)(K:KT)(F:FT)(s:List UInt8):Prop:=rB [decide (List.length s<1000000)] (bB (A.not (rdB s 3)) (F (AV.tup [AV.agg (Row.gen [.int .i64 0, .int .i64 0, .int .i64 0,AV.nils]),AV.int .i64 7]) (none)) (rB [decide (List.length [ZaK (A.le (A.int (A.len (A.sub3 (rdL s) (A.nat 3) (A.len (rdL s)-A.nat 3)))) 24) 8,ZaQ (A.sub3 (rdL s) (A.nat 3) (A.len (rdL s)-A.nat 3))]≤1000000),List.all [AV.int .i64 (ZaK (A.le (A.int (A.len (A.sub3 (rdL s) (A.nat 3) (A.len (rdL s)-A.nat 3)))) 24) 8),AV.int .i64 (ZaQ (A.sub3 (rdL s) (A.nat 3) (A.len (rdL s)-A.nat 3)))] fun x=>AV.bx x&&Nat.beq (Zag A x) 1,decide (List.length (A.sub3 (rdL s) (A.nat 3) (A.len (rdL s)-A.nat 3))≤1000000),Zah (Zah (A.le 0 3) true) (Zah (Zah (Nat.ble (A.nat 3) (A.len (rdL s))) (Nat.ble (A.len (rdL s)) (A.len (rdL s)))) true),Nat.blt 2 (A.len (A.sub3 (A.sub3 (rdL s) 0 3) 0 3)),Nat.blt 1 (A.len (A.sub3 (A.sub3 (rdL s) 0 3) 0 3)),Nat.blt 0 (A.len (A.sub3 (A.sub3 (rdL s) 0 3) 0 3)),Nat.beq (A.len (A.sub3 (A.sub3 (rdL s) 0 3) 0 3)) 3,Nat.blt 0 (A.len [0,0,0]),Nat.ble 3 (A.len (A.sub3 (rdL s) 0 3)),Zah (Nat.ble 3 (A.len (rdL s))) true] (bB (A.not (A.eq (ZbL [ZaK (A.le (A.int (A.len (A.sub3 (rdL s) (A.nat 3) (A.len (rdL s)-A.nat 3)))) 24) 8,ZaQ (A.sub3 (rdL s) (A.nat 3) (A.len (rdL s)-A.nat 3))]) 0)) (F (AV.tup [AV.agg (Row.gen [.int .i64 0, .int .i64 0, .int .i64 0,AV.nils]),AV.int .i64 (ZbL [ZaK (A.le (A.int (A.len (A.sub3 (rdL s) (A.nat 3) (A.len (rdL s)-A.nat 3)))) 24) 8,ZaQ (A.sub3 (rdL s) (A.nat 3) (A.len (rdL s)-A.nat 3))])]) (none)) (F (AV.tup [AV.agg (Row.gen [.int .i64 (A.nth (A.sub3 (A.sub3 (rdL s) 0 3) 0 3) 0), .int .i64 (A.nth (A.sub3 (A.sub3 (rdL s) 0 3) 0 3) 1), .int .i64 (A.nth (A.sub3 (A.sub3 (rdL s) 0 3) 0 3) 2), .list (.ints .i64 (A.sub3 (rdL s) (A.nat 3) (A.len (rdL s)-A.nat 3)))]),AV.int .i64 0]) (none)))))
theorem ZCT{A:Ar}{K:KT}{F:FT}{M:MT}{s:List UInt8} :Zat A tab N7 9 K F M (.run 21 (.tf (.run 7 (.fn)) (.run 21 (.tf (.run 8 (.fn)) (.run 8 (.fn)))))) (g9e s) []=ZvG A K F s:=by kernel_rfl
def Zvp(s:List UInt8):AFrame:={ fn:=10,N:=32,env:=[(0,AV.str s)],todo:=[.code a10.code],defs:=[],rnd:=none,ret:=false,res:=[ARes.cell 2 true 3,ARes.tmp 3] }
def ZB2(s:List UInt8):List AFrame:=[(Zvp s)]
theorem Zua(s:List UInt8):Zap tab 10 [AV.str s]=some (Zvp s):=rfl
def Zq7(A:Ar)(K:KT)(F:FT)(s:List UInt8):Prop:=rB [decide (List.length s<1000000)] (bB (A.not (rdB s 2)) (F (AV.tup [AV.agg (Row.gen [.int .i64 0, .int .i64 0,AV.nils]),AV.int .i64 7]) (none)) (rB [decide (List.length (A.sub3 (rdL s) (A.nat 2) (A.len (rdL s)-A.nat 2))≤1000000),Zah (Zah (A.le 0 2) true) (Zah (Zah (Nat.ble (A.nat 2) (A.len (rdL s))) (Nat.ble (A.len (rdL s)) (A.len (rdL s)))) true),Zah (Zah (A.le 0 1) (Nat.blt (A.nat 1) (A.len (rdL s)))) true,Zah (Zah (A.le 0 0) (Nat.blt (A.nat 0) (A.len (rdL s)))) true] (bB (A.not (A.eq (pkE (A.nth (rdL s) (A.nat 0)) (A.nth (rdL s) (A.nat 1)) (A.sub3 (rdL s) (A.nat 2) (A.len (rdL s)-A.nat 2))) 0)) (F (AV.tup [AV.agg (Row.gen [.int .i64 0, .int .i64 0,AV.nils]),AV.int .i64 (pkE (A.nth (rdL s) (A.nat 0)) (A.nth (rdL s) (A.nat 1)) (A.sub3 (rdL s) (A.nat 2) (A.len (rdL s)-A.nat 2)))]) (none)) (F (AV.tup [AV.agg (Row.gen [.int .i64 (A.nth (rdL s) (A.nat 0)), .int .i64 (A.nth (rdL s) (A.nat 1)), .list (.ints .i64 (A.sub3 (rdL s) (A.nat 2) (A.len (rdL s)-A.nat 2)))]),AV.int .i64 0]) (none)))))
theorem Zzj{A:Ar}{K:KT}{F:FT}{M:MT}{s:List UInt8} :Zat A tab N7 10 K F M (.run 21 (.tf (.run 7 (.fn)) (.run 16 (.tf (.run 8 (.fn)) (.run 8 (.fn)))))) (ZB2 s) []=Zq7 A K F s:=by kernel_rfl
def Zxr(s:List UInt8):AFrame:={ fn:=11,N:=40,env:=[(0,AV.str s)],todo:=[.code a11.code],defs:=[],rnd:=none,ret:=false,res:=[ARes.cell 2 true 4,ARes.tmp 3] }
def ZCk(s:List UInt8):List AFrame:=[(Zxr s)]
theorem Zsu(s:List UInt8):Zap tab 11 [AV.str s]=some (Zxr s):=rfl
def Znp(A:Ar)(K:KT)(F:FT)(s:List UInt8):Prop:=rB [decide (List.length s<1000000)] (bB (A.not (rdB s 3)) (F (AV.tup [AV.agg (Row.gen [.int .i64 0, .int .i64 0, .int .i64 0,AV.nils]),AV.int .i64 7]) (none)) (rB [A.inR .i64 (A.sub (A.int (A.len (rdL s))) 3)] (bB (A.lt 24 (A.sub (A.int (A.len (rdL s))) 3)) (F (AV.tup [AV.agg (Row.gen [.int .i64 0, .int .i64 0, .int .i64 0,AV.nils]),AV.int .i64 8]) (none)) (rB [decide (List.length (A.sub3 (rdL s) (A.nat 3) (A.len (rdL s)-A.nat 3))≤1000000),Zah (Zah (A.le 0 3) true) (Zah (Zah (Nat.ble (A.nat 3) (A.len (rdL s))) (Nat.ble (A.len (rdL s)) (A.len (rdL s)))) true)] (bB (A.not (A.eq (ZaQ (A.sub3 (rdL s) (A.nat 3) (A.len (rdL s)-A.nat 3))) 0)) (F (AV.tup [AV.agg (Row.gen [.int .i64 0, .int .i64 0, .int .i64 0,AV.nils]),AV.int .i64 (ZaQ (A.sub3 (rdL s) (A.nat 3) (A.len (rdL s)-A.nat 3)))]) (none)) (rB [decide (List.length (A.sub3 (rdL s) (A.nat 3) (A.len (rdL s)-A.nat 3))≤1000000),Zah (Zah (A.le 0 3) true) (Zah (Zah (Nat.ble (A.nat 3) (A.len (rdL s))) (Nat.ble (A.len (rdL s)) (A.len (rdL s)))) true),Zah (Zah (A.le 0 2) (Nat.blt (A.nat 2) (A.len (rdL s)))) true,Zah (Zah (A.le 0 1) (Nat.blt (A.nat 1) (A.len (rdL s)))) true,Zah (Zah (A.le 0 0) (Nat.blt (A.nat 0) (A.len (rdL s)))) true] (F (AV.tup [AV.agg (Row.gen [.int .i64 (A.nth (rdL s) (A.nat 0)), .int .i64 (A.nth (rdL s) (A.nat 1)), .int .i64 (A.nth (rdL s) (A.nat 2)), .list (.ints .i64 (A.sub3 (rdL s) (A.nat 3) (A.len (rdL s)-A.nat 3)))]),AV.int .i64 0]) (none))))))))
theorem ZyQ{A:Ar}{K:KT}{F:FT}{M:MT}{s:List UInt8} :Zat A tab N7 11 K F M (.run 21 (.tf (.run 7 (.fn)) (.run 9 (.tf (.run 7 (.fn)) (.run 14 (.tf (.run 8 (.fn)) (.run 5 (.fn)))))))) (ZCk s) []=Znp A K F s:=by kernel_rfl
def ZxT(s:List UInt8):AFrame:={ fn:=12,N:=33,env:=[(0,AV.str s)],todo:=[.code a12.code],defs:=[],rnd:=none,ret:=false,res:=[ARes.cell 2 true 3,ARes.tmp 3] }
def ZCW(s:List UInt8):List AFrame:=[(ZxT s)]
theorem Zt1(s:List UInt8):Zap tab 12 [AV.str s]=some (ZxT s):=rfl
def Zqs(A:Ar)(K:KT)(F:FT)(s:List UInt8):Prop:=rB [decide (List.length s<1000000)] (bB (A.not (rdB s 2)) (F (AV.tup [AV.agg (Row.gen [.int .i64 0, .int .i64 0,AV.nils]),AV.int .i64 7]) (none)) (rB [decide (List.length (A.sub3 (rdL s) (A.nat 2) (A.len (rdL s)-A.nat 2))≤1000000),decide (List.length (A.sub3 (rdL s) (A.nat 2) (A.len (rdL s)-A.nat 2))≤1000000),Zah (Zah (A.le 0 2) true) (Zah (Zah (Nat.ble (A.nat 2) (A.len (rdL s))) (Nat.ble (A.len (rdL s)) (A.len (rdL s)))) true),Zah (Zah (A.le 0 1) (Nat.blt (A.nat 1) (A.len (rdL s)))) true,Zah (Zah (A.le 0 0) (Nat.blt (A.nat 0) (A.len (rdL s)))) true] (bB (A.not (A.eq (pkE (A.nth (rdL s) (A.nat 0)) (A.nth (rdL s) (A.nat 1)) (A.sub3 (rdL s) (A.nat 2) (A.len (rdL s)-A.nat 2))) 0)) (F (AV.tup [AV.agg (Row.gen [.int .i64 0, .int .i64 0,AV.nils]),AV.int .i64 (pkE (A.nth (rdL s) (A.nat 0)) (A.nth (rdL s) (A.nat 1)) (A.sub3 (rdL s) (A.nat 2) (A.len (rdL s)-A.nat 2)))]) (none)) (F (AV.tup [AV.agg (Row.gen [.int .i64 (A.nth (rdL s) (A.nat 0)), .int .i64 (A.nth (rdL s) (A.nat 1)), .list (.ints .i64 (A.sub3 (rdL s) (A.nat 2) (A.len (rdL s)-A.nat 2)))]),AV.int .i64 0]) (none)))))
theorem Zy6{A:Ar}{K:KT}{F:FT}{M:MT}{s:List UInt8} :Zat A tab N7 12 K F M (.run 21 (.tf (.run 7 (.fn)) (.run 16 (.tf (.run 8 (.fn)) (.run 8 (.fn)))))) (ZCW s) []=Zqs A K F s:=by kernel_rfl
end Go.Proofs.YthfcimmcccocmaaGreatDoor
