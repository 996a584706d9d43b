/- Texts cut at a byte, numbers of texts: plain. No condition. -/
import Derived.Test.YthfcimmcccocmaaGreatDoorSb
import Derived.Lib.SplitLaws
import Derived.Lib.AtoiTie
import Derived.Lib.AtoiAllCases
import Derived.KernelRfl
namespace Go.Proofs.YthfcimmcccocmaaGreatDoor
def Zbg(c:UInt8):List UInt8→List (List UInt8)
 |[]=>[[]]
 |x::s=>if x=c then []::Zbg c s else match Zbg c s with |[]=>[[x]] |y::ys=>(x::y)::ys
theorem Zit(c:UInt8):∀s,Zbg c s≠[]
 |[]=>by simp[Zbg]
 |x::s=>by
  rw[Zbg]
  split
  ·simp
  ·split<;>simp
theorem Zir(s:List UInt8)(c:UInt8):∀(m i f:Nat),i+m=s.length→f≤i→(ZmW s (c.toNat:Int) m i f).map AV.toS=match Zbg c (s.drop i)with |[]=>[] |y::ys=>((s.drop f).take (i-f)++y)::ys
 |0,i,f,hi,hf=>by
  obtain rfl:i=s.length:=by omega
  rw[List.drop_length]
  simp[ZmW,Zbg,AV.toS]
  rw[List.take_of_length_le (by simp)]
 |m+1,i,f,hi,hf=>by
  have hlt:i<s.length:=by omega
  rw[List.drop_eq_getElem_cons hlt,Zbg,ZmW]
  have hg:s.getD i 0=s[i]:=by rw[List.getD_eq_getElem?_getD,List.getElem?_eq_getElem hlt];rfl
  have hcc:((s.getD i 0).toNat:Int)=(c.toNat:Int)↔s[i]=c:=by
   rw[hg]
   constructor
   ·intro h;exact UInt8.toNat_inj.1 (by omega)
   ·intro h;rw[h]
  by_cases h:s[i]=c
  ·have ih:=Zir s c m (i+1) (i+1) (by omega) (Nat.le_refl _)
   rw[if_pos (hcc.2 h),if_pos h,List.map_cons,ih]
   have:(match Zbg c (s.drop (i+1))with |[]=>[] |y::ys=>((s.drop (i+1)).take (i+1-(i+1))++y)::ys)=Zbg c (s.drop (i+1)):=by
    cases hq:Zbg c (s.drop (i+1))with
    |nil=>exact absurd hq (Zit _ _)
    |cons y ys=>simp
   rw[this]
   simp[AV.toS]
  ·have ih:=Zir s c m (i+1) f (by omega) (by omega)
   rw[if_neg (fun q=>h (hcc.1 q)),if_neg h,ih]
   have ht:(s.drop f).take (i+1-f)=(s.drop f).take (i-f)++[s[i]]:=by
    rw[show i+1-f=(i-f)+1 by omega,List.take_add_one,List.getElem?_drop,show f+(i-f)=i by omega,List.getElem?_eq_getElem hlt];rfl
   cases hq:Zbg c (s.drop (i+1))with
   |nil=>exact absurd hq (Zit _ _)
   |cons y ys=>simp[ht]
theorem Zp5(s:List UInt8)(c:UInt8):(Zm0 s (c.toNat:Int)).map AV.toS=Zbg c s:=by
 unfold Zm0
 rw[Zir s c s.length 0 0 (by omega) (Nat.le_refl _)]
 cases hq:Zbg c (s.drop 0)with
 |nil=>exact absurd hq (Zit _ _)
 |cons y ys=>simpa using hq.symm
theorem Zfj(c:UInt8):∀(x s:List UInt8),c∉x→Zbg c (x++c::s)=x::Zbg c s
 |[],s,_=>by rw[List.nil_append,Zbg,if_pos rfl]
 |y::x,s,h=>by
  have ih:=Zfj c x s (fun q=>h (List.mem_cons_of_mem _ q))
  rw[List.cons_append,Zbg,if_neg (fun e=>h (by rw[e];exact List.mem_cons_self)),ih]
theorem Zio(c:UInt8):∀(x:List UInt8),c∉x→Zbg c x=[x]
 |[],_=>rfl
 |y::x,h=>by
  have ih:=Zio c x (fun q=>h (List.mem_cons_of_mem _ q))
  rw[Zbg,if_neg (fun e=>h (by rw[e];exact List.mem_cons_self)),ih]
theorem Zfl(s:List UInt8):∀(m i n:Nat),i+m=s.length→ZoL s m i (n:Int)=(Lib.decFrom n (s.drop i)).map fun q:Nat=>(q:Int)
 |0,i,n,hi=>by rw[List.drop_of_length_le (by omega)];rfl
 |m+1,i,n,hi=>by
  have hlt:i<s.length:=by omega
  have hg:s.getD i 0=s[i]:=by rw[List.getD_eq_getElem?_getD,List.getElem?_eq_getElem hlt];rfl
  rw[List.drop_eq_getElem_cons hlt,ZoL,Lib.decFrom,hg]
  unfold Lib.digitVal
  by_cases h:48≤s[i].toNat∧s[i].toNat≤57
  ·rw[if_neg (by omega),if_pos h]
   have ih:=Zfl s m (i+1) (n*10+(s[i].toNat-48)) (by omega)
   rw[←ih]
   congr 1
   omega
  ·rw[if_pos (by omega),if_neg h];rfl
theorem Zck:∀(t:List UInt8) (acc:Nat) (c:UInt8),Lib.decFrom acc (t++[c])=(Lib.decFrom acc t).bind fun n=>(Lib.digitVal c).map fun d=>n*10+d
 |[],acc,c=>by
  rw[List.nil_append]
  simp only[Lib.decFrom,Option.bind_some]
  cases Lib.digitVal c<;>rfl
 |b::t,acc,c=>by
  rw[List.cons_append,Lib.decFrom,Lib.decFrom]
  cases Lib.digitVal b with
  |none=>rfl
  |some d=>exact Zck t _ c
theorem ZcJ(c:Nat)(h:c<10):(UInt8.ofNat (48+c)).toNat=48+c:=by
 simp[UInt8.toNat_ofNat'];omega
theorem ZgQ:∀u:Nat,Lib.decFrom 0 (Lib.decDigits u)=some u:=by
 intro u
 induction u using Nat.strongRecOn with
 |ind u ih=>
  rw[Lib.decDigits]
  by_cases h:u<10
  ·rw[dif_pos h]
   simp only[Lib.decFrom,Lib.digitVal,ZcJ u h]
   rw[if_pos (by omega)]
   simp
  ·rw[dif_neg h,Zck,ih (u/10) (by omega)]
   simp only[Option.bind_some,Lib.digitVal,ZcJ (u%10) (by omega)]
   rw[if_pos (by omega)]
   simp;omega
theorem ZeN:∀u:Nat,∀c∈Lib.decDigits u,48≤c.toNat∧c.toNat≤57:=by
 intro u
 induction u using Nat.strongRecOn with
 |ind u ih=>
  intro c hc
  rw[Lib.decDigits]at hc
  by_cases h:u<10
  ·rw[dif_pos h]at hc
   simp only[List.mem_singleton]at hc
   subst hc
   rw[ZcJ u h];omega
  ·rw[dif_neg h]at hc
   rcases List.mem_append.1 hc with hc |hc
   ·exact ih (u/10) (by omega) c hc
   ·simp only[List.mem_singleton]at hc
    subst hc
    rw[ZcJ _ (by omega)];omega
theorem Zfx(u:Nat):Lib.decDigits u≠[]:=by
 rw[Lib.decDigits]
 split<;>simp
theorem Zkj:∀u:Nat,10≤u→∀c,(Lib.decDigits u).head? =some c→c.toNat≠48:=by
 intro u
 induction u using Nat.strongRecOn with
 |ind u ih=>
  intro h10 c hc
  rw[Lib.decDigits,dif_neg (by omega)]at hc
  have hne:=Zfx (u/10)
  obtain⟨y,ys,hy⟩:=List.exists_cons_of_ne_nil hne
  rw[hy,List.cons_append,List.head?_cons]at hc
  cases hc
  by_cases h2:10≤u/10
  ·exact ih (u/10) (by omega) h2 c (by rw[hy];rfl)
  ·rw[Lib.decDigits,dif_pos (by omega)]at hy
   cases hy
   rw[ZcJ _ (by omega)];omega
theorem ZnC:∀(k:Nat) (s:List UInt8) (n:Nat),s.length=k→s≠[]→Lib.decFrom 0 s=some n→(∀c,s.head? =some c→c.toNat=48→s.length=1)→Lib.decDigits n=s:=by
 intro k
 induction k with
 |zero=>intro s n h1 h2;exact absurd (List.eq_nil_of_length_eq_zero h1) h2
 |succ k ih=>
  intro s n h1 h2 h3 h4
  obtain⟨t,c,rfl⟩:∃t c,s=t++[c]:=⟨s.dropLast,s.getLast h2,(List.dropLast_concat_getLast h2).symm⟩
  rw[Zck]at h3
  cases ht:Lib.decFrom 0 t with
  |none=>rw[ht]at h3;cases h3
  |some q=>
   rw[ht,Option.bind_some]at h3
   unfold Lib.digitVal at h3
   by_cases hd:48≤c.toNat∧c.toNat≤57
   ·rw[if_pos hd]at h3
    simp only[Option.map_some,Option.some.injEq]at h3
    have hc:UInt8.ofNat (48+(c.toNat-48))=c:=by
     rw[show 48+(c.toNat-48)=c.toNat by omega];simp
    by_cases hn:t=[]
    ·subst hn
     simp only[Lib.decFrom,Option.some.injEq]at ht
     subst ht
     rw[Lib.decDigits,dif_pos (by omega),←h3,show 0*10+(c.toNat-48)=c.toNat-48 by omega,hc];rfl
    ·obtain⟨y,ys,rfl⟩:=List.exists_cons_of_ne_nil hn
     have hy:y.toNat≠48:=fun e=>by
      have:=h4 y rfl e
      simp at this
     have hq:=ih (y::ys) q (by simpa using h1) hn ht (fun c' hc' e=>by simp only[List.head?_cons,Option.some.injEq]at hc';subst hc';exact absurd e hy)
     have hq0:q≠0:=fun e=>by
      subst e
      rw[Lib.decDigits,dif_pos (by omega)]at hq
      cases hq
      exact hy (ZcJ 0 (by omega))
     rw[Lib.decDigits,dif_neg (by omega),show n/10=q by omega,hq,show n%10=c.toNat-48 by omega,hc]
   ·rw[if_neg hd]at h3;cases h3
end Go.Proofs.YthfcimmcccocmaaGreatDoor
/- A number's text, as the program and the reference read it. No condition. -/
namespace Go.Proofs.YthfcimmcccocmaaGreatDoor
def Zke(s:List UInt8)(d:Int):Bool:=match Lib.atoiAll s with | .ok v=>decide (0≤v)&&(decide (Lib.itoa v=s)&&decide ((s.length:Int)≤d)) |_=>false
theorem Zgm(u:Nat)(h:(Lib.decDigits u).length≤18):Lib.atoiAll (Lib.decDigits u)=.ok (u:Int):=by
 rw[Lib.atoiAll_short _ h]
 obtain⟨c,r,hcr⟩:=List.exists_cons_of_ne_nil (Zfx u)
 have hm:=ZeN u c (by rw[hcr];exact List.mem_cons_self)
 have h1:¬c=45:=fun e=>by rw[e]at hm;exact absurd hm.1 (by decide)
 have h2:¬c=43:=fun e=>by rw[e]at hm;exact absurd hm.1 (by decide)
 have hd:=ZgQ u
 rw[hcr]at hd⊢
 simp[Lib.atoi,h1,h2,Lib.decNat,hd,Lib.NumEnd.ofOption]
theorem Zii(u:Nat):Lib.itoa (u:Int)=Lib.decDigits u:=by
 unfold Lib.itoa;rw[if_neg (by omega)];rfl
theorem Zis(s:List UInt8)(d:Int)(hd:d≤18):Zke s d=true↔∃u:Nat,Lib.decDigits u=s∧(s.length:Int)≤d:=by
 constructor
 ·intro h
  unfold Zke at h
  split at h
  ·rename_i v hv
   simp only[Bool.and_eq_true,decide_eq_true_eq]at h
   refine⟨v.toNat,?_,h.2.2⟩
   have e:=Zii v.toNat
   rw[show ((v.toNat:Nat):Int)=v by omega]at e
   rw[←e];exact h.2.1
  ·cases h
 ·rintro⟨u,rfl,hl⟩
  unfold Zke
  rw[Zgm u (by omega)]
  simp only[Bool.and_eq_true,decide_eq_true_eq]
  exact⟨by omega,Zii u,hl⟩
theorem ZfN(u:Nat)(h:(Lib.decDigits u).length≤18):ZaZ (Lib.decDigits u)=u:=by
 unfold ZaZ;rw[Zgm u h]
theorem Zfv{s:List UInt8}{c:UInt8}{k:Nat}(h:(s.drop k).head? =some c):s.getD k 0=c∧k<s.length:=by
 rw[List.head?_drop]at h
 obtain⟨h1,h2⟩:=List.getElem?_eq_some_iff.1 h
 exact⟨by rw[List.getD_eq_getElem?_getD,h];rfl,h1⟩
theorem Zkf(u:Nat)(d:Int)(h:((Lib.decDigits u).length:Int)≤d):Zd1 (Lib.decDigits u) d=some (u:Int):=by
 obtain⟨c,r,hcr⟩:=List.exists_cons_of_ne_nil (Zfx u)
 have hm:=ZeN u c (by rw[hcr];exact List.mem_cons_self)
 have hg:(Lib.decDigits u).getD 0 0=c:=by rw[hcr];rfl
 have hlen:0<(Lib.decDigits u).length:=by rw[hcr];simp
 have ha:Zcq (Lib.decDigits u)=0:=by
  unfold Zcq;rw[hg,if_neg];intro q;omega
 have h1:c.toNat=48→¬1<(Lib.decDigits u).length:=fun e hl=>by
  by_cases h10:10≤u
  ·exact Zkj u h10 c (by rw[hcr];rfl) e
  ·rw[Lib.decDigits,dif_pos (by omega)]at hl
   simp at hl
 have hG:ZjU (Lib.decDigits u) d=true:=by
  unfold ZjU
  rw[ha,hg]
  exact decide_eq_true ⟨by omega,by omega,fun q=>h1 q.1 q.2⟩
 unfold Zd1
 rw[if_pos hG,ha]
 have hn:=Zfl (Lib.decDigits u) (Lib.decDigits u).length 0 0 (by omega)
 rw[List.drop_zero,ZgQ]at hn
 rw[Nat.sub_zero]
 rw[show (0:Int)=((0:Nat):Int)from rfl,hn]
 simp
theorem ZrC(s:List UInt8)(d v:Int)(h:Zd1 s d=some v)(hv:0≤v):∃u:Nat,Lib.decDigits u=s∧(s.length:Int)≤d:=by
 unfold Zd1 at h
 by_cases hG:ZjU s d=true
 ·rw[if_pos hG]at h
  simp only[ZjU,decide_eq_true_eq]at hG
  obtain⟨g1,g2,g3⟩:=hG
  by_cases ha:Zcq s=1
  ·rw[ha]at h g1 g2 g3
   have hpos:0<s.length:=by
    unfold Zcq at ha
    split at ha
    ·rename_i q;exact q.1
    ·cases ha
   have hn:=Zfl s (s.length-1) 1 0 (by omega)
   rw[show ((0:Nat):Int)=0 from rfl]at hn
   rw[hn]at h
   cases hq:Lib.decFrom 0 (s.drop 1)with
   |none=>rw[hq]at h;cases h
   |some q=>
    rw[hq]at h
    simp only[Option.map_some,if_pos,Option.some.injEq]at h
    have hq0:q=0:=by omega
    subst hq0
    have hne:s.drop 1≠[]:=fun e=>by
     have:=congrArg List.length e
     simp at this;omega
    have e:=ZnC _ (s.drop 1) 0 rfl hne hq (fun c hc e48=>by
     obtain⟨q1,q2⟩:=Zfv hc
     exact absurd ⟨by rw[q1];exact e48,q2⟩ g3)
    rw[Lib.decDigits,dif_pos (by decide)]at e
    obtain⟨q1,q2⟩:=Zfv (k:=1) (s:=s) (c:=UInt8.ofNat (48+0)) (by rw[←e];rfl)
    exact absurd ⟨by rw[q1];rfl,q2⟩ g3
  ·have ha:Zcq s=0:=by
    unfold Zcq at ha⊢
    split at ha
    ·exact absurd rfl ha
    ·rename_i q;rw[if_neg q]
   rw[ha]at h g1 g2 g3
   rw[Nat.sub_zero]at h
   have hn:=Zfl s s.length 0 0 (by omega)
   rw[show ((0:Nat):Int)=0 from rfl,List.drop_zero]at hn
   rw[hn]at h
   cases hq:Lib.decFrom 0 s with
   |none=>rw[hq]at h;cases h
   |some q=>
    have hne:s≠[]:=fun e=>g1 (by rw[e];rfl)
    refine⟨q,ZnC _ s q rfl hne hq (fun c hc e48=>?_),by omega⟩
    obtain⟨q1,q2⟩:=Zfv (k:=0) (by rw[List.drop_zero];exact hc)
    have:¬1<s.length:=fun hl=>g3 ⟨by rw[q1];exact e48,hl⟩
    omega
 ·rw[if_neg hG]at h;cases h
theorem ZoT(s:List UInt8)(d:Int)(hd:d≤18):Zke s d=((Zd1 s d).isSome&&decide (0≤(Zd1 s d).getD 0))∧(Zke s d=true→ZaZ s=(Zd1 s d).getD 0):=by
 by_cases h:Zke s d=true
 ·obtain⟨u,rfl,hl⟩:=(Zis s d hd).1 h
  rw[h,Zkf u d hl]
  exact⟨by simp,fun _=>ZfN u (by omega)⟩
 ·refine⟨?_,fun q=>absurd q h⟩
  cases ho:Zd1 s d with
  |none=>simpa using h
  |some v=>
   by_cases hv:0≤v
   ·exact absurd ((Zis s d hd).2 (ZrC s d v ho hv)) h
   ·simpa[hv]using h
end Go.Proofs.YthfcimmcccocmaaGreatDoor
/- Contracts as a list. No condition. -/
namespace Go.Proofs.YthfcimmcccocmaaGreatDoor
theorem Zf5(c:UInt8):∀s:List UInt8,(c∉s∧Lib.index s [c]= -1)∨∃x t,s=x++c::t∧c∉x∧Lib.index s [c]=x.length
 |[]=>.inl ⟨by simp,by simp[Lib.index]⟩
 |x::s=>by
  by_cases h:x=c
  ·subst h
   exact .inr ⟨[],s,rfl,by simp,by simp[Lib.index]⟩
  ·have hi:Lib.index (x::s) [c]=if Lib.index s [c]== -1 then -1 else Lib.index s [c]+1:=by
    rw[Lib.index]
    simp[Ne.symm h]
   rcases Zf5 c s with⟨h1,h2⟩ |⟨y,t,h1,h2,h3⟩
   ·left
    refine⟨by simp[h1,Ne.symm h],?_⟩
    rw[hi,h2];rfl
   ·right
    refine⟨x::y,t,by rw[h1];rfl,by simp[h2,Ne.symm h],?_⟩
    rw[hi,h3,if_neg (by simp)]
    simp
theorem ZnA{s:List UInt8}(h:ZdH s=false):∃v,Lib.atoiAll s=.ok v∧ZaZ s=v∧(-9223372036854775808≤v∧v≤9223372036854775807):=by
 unfold ZdH at h
 split at h
 ·rename_i v hv
  exact⟨v,hv,by unfold ZaZ;rw[hv],Lib.atoiAll_bounds hv⟩
 ·cases h
theorem Zf7{s:List UInt8}(h:ZdH s=true)(d:Int):Zke s d=false:=by
 unfold ZdH at h
 unfold Zke
 split at h
 ·cases h
 ·rename_i hv
  split
  ·rename_i v hq;exact absurd hq (hv v)
  ·rfl
theorem Zia{s:List UInt8}(h:ZdH s=false)(d:Int):Zke s d=(decide (0≤ZaZ s)&&(decide (Lib.itoa (ZaZ s)=s)&&decide ((s.length:Int)≤d))):=by
 obtain⟨v,hv,e,_⟩:=ZnA h
 rw[e]
 unfold Zke
 rw[hv]
theorem Zfo{s:List UInt8}(h:ZdH s=false):Zdf (ZaZ s)=true:=by
 obtain⟨v,_,e,hb⟩:=ZnA h
 rw[e]
 exact i64B_iff.2 hb
def okW(w:List UInt8):Bool:=Zke w 3
def Zqd(b:Bool)(xs:List Int)(few:Int):AV:=.tup [.list (.ints .i64 (cond b xs [])), .bool (b&&decide (few≤xs.length))]
theorem rdN(b:Bool)(xs:List Int)(few:Int)(h:b=false):∃r'',Wk (.tup [.nils, .bool false]) r''∧Frz none r'' (Zqd b xs few)∧ZgK none=false:=by
 subst h
 exact⟨_, .same _, .tup ⟨.nil _ rfl, .same _ rfl rfl,trivial⟩,rfl⟩
theorem rdR(b c:Bool)(xs ys:List Int)(few:Int)(h:b=true)(hx:ys=xs)(hc:c=decide (few≤ys.length)):∃r'',Wk (.tup [.row 0 0, .bool c]) r''∧Frz (some ⟨3,1, .ints .i64 ys⟩) r'' (Zqd b xs few)∧ZgK (some ⟨3,1, .ints .i64 ys⟩)=false:=by
 subst h hx hc
 exact⟨_, .same _, .tup ⟨.row _ rfl rfl rfl, .same _ rfl rfl,trivial⟩,rfl⟩
theorem Zn5{c:UInt8}{s:List UInt8}(h:c∉s):Zbg c s=[s]:=Zio c s h
theorem Zm9{x t:List UInt8}{c:UInt8} :((x++c::t).drop 0).take (x.length-0)=x∧((x++c::t).drop (x.length+1)).take ((x++c::t).length-(x.length+1))=t:=by
 refine⟨by simp,?_⟩
 have e:(x++c::t).drop (x.length+1)=t:=by
  rw[←List.drop_drop,List.drop_left];rfl
 rw[e]
 exact List.take_of_length_le (by simp;omega)
theorem Zh6{α:Type}(l:List α)(k n:Nat):sub3 l k n=(l.drop k).take n:=by unfold sub3;rfl
section
variable {C:Ctx}(hC:C.P=Tryz.prog)(s:List UInt8)(few:Int)
include hC
theorem ZCy:∀(n:Nat) (l1:List UInt8) (l0:List Int),l1.length≤n→n≤1000000→l0.length+l1.length≤1000000→Ev C (ZeJ s few l0 l1) (Zdo s few l0 l1) (Zre 32 (Zqd ((Zbg 32 l1).all okW) (l0++(Zbg 32 l1).map ZaZ) few)):=by
 intro n
 induction n with
 |zero=>
  intro l1 l0 hl hn h0
  obtain rfl:l1=[]:=List.eq_nil_of_length_eq_zero (by omega)
  refine ZrI hC ZaP Zgw ?_
  have hi:ixS [] [32]= -1:=by unfold ixS;simp[Lib.index]
  have hx:ZdH []=true:=by unfold ZdH;decide +kernel
  have hb:(Zbg 32 []).all okW=false:=by simp[Zbg,okW,Zf7 hx]
  simp[ZaA,hi,hx]
  exact rdN _ _ _ hb
 |succ n ih=>
  intro l1 l0 hl hn h0
  refine ZrI hC ZaP Zgw ?_
  have hl1:l1.length≤1000000:=by omega
  rcases Zf5 32 l1 with⟨h1,h2⟩ |⟨x,t,h1,h2,h3⟩
  ·have hi:ixS l1 [32]= -1:=by unfold ixS;exact h2
   have hcut:=Zn5 h1
   rw[hcut]
   have hall:([l1].all okW)=okW l1:=by simp
   rw[hall]
   cases hx:ZdH l1 with
   |true=>
    simp[ZaA,hi,hl1,hx]
    exact rdN _ _ _ (Zf7 hx 3)
   |false=>
    have hb:=Zia hx 3
    have h64:=Zfo hx
    have hbo:okW l1=Zke l1 3:=rfl
    rw[←hbo]at hb
    by_cases g1:ZaZ l1<0
    ·simp[ZaA,hi,hl1,hx,g1]
     exact rdN _ _ _ (by rw[hb,decide_eq_false (show ¬0≤ZaZ l1 by omega)];rfl)
    ·by_cases g2:Lib.itoa (ZaZ l1)=l1
     ·by_cases g3:(3:Int)<l1.length
      ·simp[ZaA,hi,hl1,hx,g1,h64,g2,g3]
       exact rdN _ _ _ (by rw[hb];simp;omega)
      ·have g3':¬3<l1.length:=by omega
       have hbt:okW l1=true:=by rw[hb];simp[g2];omega
       simp[ZaA,hi,hl1,hx,g1,h64,g2,g3,g3',AV.bx,Zag]
       refine⟨by omega,rdR _ _ _ _ _ hbt (by simp) (by simp)⟩
     ·simp[ZaA,hi,hl1,hx,g1,h64,g2]
      exact rdN _ _ _ (by rw[hb];simp[g2])
  ·have hi:ixS l1 [32]=x.length:=by unfold ixS;exact h3
   obtain⟨s1,s2⟩:=Zm9 (x:=x) (t:=t) (c:=32)
   have hcut:Zbg 32 l1=x::Zbg 32 t:=by rw[h1];exact Zfj 32 x t h2
   have hlx:l1.length=x.length+1+t.length:=by rw[h1];simp;omega
   rw[hcut]
   have hall:((x::Zbg 32 t).all okW)=(okW x&&(Zbg 32 t).all okW):=by simp
   rw[hall,List.map_cons]
   rw[←h1]at s1 s2
   have hx1:x.length≤1000000:=by omega
   have e1:((x.length:Int)+0).toNat=x.length:=by omega
   have e2:((x.length:Int)+1).toNat=x.length+1:=by omega
   have n0:¬(x.length:Int)<0:=by omega
   rw[Nat.sub_zero]at s1
   have t1:sub3 l1 0 x.length=x:=(Zh6 _ _ _).trans s1
   have t2:sub3 l1 (x.length+1) (l1.length-(x.length+1))=t:=(Zh6 _ _ _).trans s2
   cases hx:ZdH x with
   |true=>
    simp[ZaA,hi,hl1,n0,t1,hx,hx1]
    repeat refine⟨by omega,?_⟩
    exact rdN _ _ _ (by rw[show okW x=false from Zf7 hx 3];rfl)
   |false=>
    have hb:=Zia hx 3
    have h64:=Zfo hx
    have hbo:okW x=Zke x 3:=rfl
    rw[←hbo]at hb
    by_cases g1:ZaZ x<0
    ·simp[ZaA,hi,hl1,n0,t1,hx,hx1,g1]
     repeat refine⟨by omega,?_⟩
     exact rdN _ _ _ (by rw[hb,decide_eq_false (show ¬0≤ZaZ x by omega)];rfl)
    ·by_cases g2:Lib.itoa (ZaZ x)=x
     ·by_cases g3:(3:Int)<x.length
      ·simp[ZaA,hi,hl1,n0,t1,hx,hx1,g1,h64,g2,g3]
       repeat refine⟨by omega,?_⟩
       exact rdN _ _ _ (by rw[hb];simp;omega)
      ·have g3':¬3<x.length:=by omega
       have hbt:okW x=true:=by rw[hb];simp[g2];omega
       have:=ih t (l0++[ZaZ x]) (by omega) (by omega) (by simp;omega)
       rw[List.append_assoc,List.singleton_append]at this
       rw[hbt,Bool.true_and]
       simp[ZaA,hi,hl1,n0,t1,hx,hx1,g1,h64,g2,g3,g3',AV.bx,Zag,e2,t2]
       repeat refine⟨by omega,?_⟩
       simpa using this
     ·simp[ZaA,hi,hl1,n0,t1,hx,hx1,g1,h64,g2]
      repeat refine⟨by omega,?_⟩
      exact rdN _ _ _ (by rw[hb];simp[g2])
theorem ZCw(hl:s.length≤1000000)(hl2:s.length<1000000):Ev C (Zej s few) (Zdn s few) (Zre 32 (Zqd ((Zbg 32 s).all okW) ((Zbg 32 s).map ZaZ) few)):=by
 refine ZrI hC ZaP Zj2 ?_
 have hs:s.length≤1000000:=hl
 rcases Zf5 32 s with⟨h1,h2⟩ |⟨x,t,h1,h2,h3⟩
 ·have hi:ixS s [32]= -1:=by unfold ixS;exact h2
  have hcut:=Zn5 h1
  rw[hcut]
  have hall:([s].all okW)=okW s:=by simp
  rw[hall]
  cases hx:ZdH s with
  |true=>
   simp[ZaC,hi,hs,hx]
   exact rdN _ _ _ (Zf7 hx 3)
  |false=>
   have hb:=Zia hx 3
   have h64:=Zfo hx
   have hbo:okW s=Zke s 3:=rfl
   rw[←hbo]at hb
   by_cases g1:ZaZ s<0
   ·simp[ZaC,hi,hs,hx,g1]
    exact rdN _ _ _ (by rw[hb,decide_eq_false (show ¬0≤ZaZ s by omega)];rfl)
   ·by_cases g2:Lib.itoa (ZaZ s)=s
    ·by_cases g3:(3:Int)<s.length
     ·simp[ZaC,hi,hs,hx,g1,h64,g2,g3]
      exact rdN _ _ _ (by rw[hb];simp;omega)
     ·have g3':¬3<s.length:=by omega
      have hbt:okW s=true:=by rw[hb];simp[g2];omega
      simp[ZaC,hi,hs,hx,g1,h64,g2,g3,g3',AV.bx,Zag]
      exact rdR _ _ _ _ _ hbt (by simp) (by simp)
    ·simp[ZaC,hi,hs,hx,g1,h64,g2]
     exact rdN _ _ _ (by rw[hb];simp[g2])
 ·have hi:ixS s [32]=x.length:=by unfold ixS;exact h3
  obtain⟨s1,s2⟩:=Zm9 (x:=x) (t:=t) (c:=32)
  have hcut:Zbg 32 s=x::Zbg 32 t:=by rw[h1];exact Zfj 32 x t h2
  have hlx:s.length=x.length+1+t.length:=by rw[h1];simp;omega
  rw[hcut]
  have hall:((x::Zbg 32 t).all okW)=(okW x&&(Zbg 32 t).all okW):=by simp
  rw[hall,List.map_cons]
  rw[←h1]at s1 s2
  have hx1:x.length≤1000000:=by omega
  have e1:((x.length:Int)+0).toNat=x.length:=by omega
  have e2:((x.length:Int)+1).toNat=x.length+1:=by omega
  have n0:¬(x.length:Int)<0:=by omega
  rw[Nat.sub_zero]at s1
  have t1:sub3 s 0 x.length=x:=(Zh6 _ _ _).trans s1
  have t2:sub3 s (x.length+1) (s.length-(x.length+1))=t:=(Zh6 _ _ _).trans s2
  cases hx:ZdH x with
  |true=>
   simp[ZaC,hi,hs,n0,t1,hx,hx1]
   repeat refine⟨by omega,?_⟩
   exact rdN _ _ _ (by rw[show okW x=false from Zf7 hx 3];rfl)
  |false=>
   have hb:=Zia hx 3
   have h64:=Zfo hx
   have hbo:okW x=Zke x 3:=rfl
   rw[←hbo]at hb
   by_cases g1:ZaZ x<0
   ·simp[ZaC,hi,hs,n0,t1,hx,hx1,g1]
    repeat refine⟨by omega,?_⟩
    exact rdN _ _ _ (by rw[hb,decide_eq_false (show ¬0≤ZaZ x by omega)];rfl)
   ·by_cases g2:Lib.itoa (ZaZ x)=x
    ·by_cases g3:(3:Int)<x.length
     ·simp[ZaC,hi,hs,n0,t1,hx,hx1,g1,h64,g2,g3]
      repeat refine⟨by omega,?_⟩
      exact rdN _ _ _ (by rw[hb];simp;omega)
     ·have g3':¬3<x.length:=by omega
      have hbt:okW x=true:=by rw[hb];simp[g2];omega
      have:=ZCy hC s few t.length t [ZaZ x] (Nat.le_refl _) (by omega) (by simp;omega)
      rw[List.singleton_append]at this
      rw[hbt,Bool.true_and]
      simp[ZaC,hi,hs,n0,t1,hx,hx1,g1,h64,g2,g3,g3',AV.bx,Zag,e2,t2]
      repeat refine⟨by omega,?_⟩
      simpa using this
    ·simp[ZaC,hi,hs,n0,t1,hx,hx1,g1,h64,g2]
     repeat refine⟨by omega,?_⟩
     exact rdN _ _ _ (by rw[hb];simp[g2])
end
def rdL(s:List UInt8):List Int:=cond ((Zbg 32 s).all okW) ((Zbg 32 s).map ZaZ) []
def rdB(s:List UInt8)(few:Int):Bool:=(Zbg 32 s).all okW&&decide (few≤((Zbg 32 s).map ZaZ).length)
theorem Znw(s:List UInt8)(few:Int)(hl:s.length<1000000):Zae Tryz.prog 32 [.str s, .int .i64 few] (.tup [.list (.ints .i64 (rdL s)), .bool (rdB s few)]) Zuz:=
 ZrO (r:=Zqd ((Zbg 32 s).all okW) ((Zbg 32 s).map ZaZ) few) (ZtL s few) fun C hC=>ZrI hC ZaP ZyA (by
  have:=ZCw hC s few (by omega) hl
  simp[Zu5]
  simpa using this)
section
variable {C:Ctx}(hC:C.P=Tryz.prog)(xs ys:List Int)(hl:(0<xs.length∧xs.length≤1000000)∧ys.length≤1000000)
include hC hl
theorem ZCG:Ev C (ZcE xs ys 0 2 (List.replicate (xs.length+ys.length) 0) 0) (ZbW xs ys 0 2 (List.replicate (xs.length+ys.length) 0) 0) (ZdY 61 (.row 0 0) (some ⟨3,1, .ints .i64 (xs++ys)⟩)):=by
 obtain⟨⟨h0,h1⟩,h2⟩:=hl
 have s2:Ev C (ZcE xs ys (xs.length+ys.length) 2 (xs++ys) 2) (ZbW xs ys (xs.length+ys.length) 2 (xs++ys) 2) (ZdY 61 (.row 0 0) (some ⟨3,1, .ints .i64 (xs++ys)⟩)):=
  tgo hC ZaP ZeM (by simp[ZcU])
 have s1:Ev C (ZcE xs ys xs.length 2 (xs++List.replicate ys.length 0) 1) (ZbW xs ys xs.length 2 (xs++List.replicate ys.length 0) 1) (ZdY 61 (.row 0 0) (some ⟨3,1, .ints .i64 (xs++ys)⟩)):=
  tgo hC ZaP ZeM (by
   simp[ZcU]
   exact⟨by omega,by simpa using s2⟩)
 exact tgo hC ZaP ZeM (by
  have e:(List.replicate (xs.length+ys.length) (0:Int)).drop xs.length=List.replicate ys.length 0:=by simp
  simp[ZcU]
  exact⟨by omega,by simpa using s1⟩)
end
theorem Zgz(xs ys:List Int)(hl:(0<xs.length∧xs.length≤1000000)∧ys.length≤1000000):Zae Tryz.prog 61 [.list (.gen [.list (.ints .i64 xs), .list (.ints .i64 ys)])] (.row 0 0) (some ⟨3,1, .ints .i64 (xs++ys)⟩):=
 start (Zta xs ys) fun C hC=>tgo hC ZaP ZyC (by
  have h:=hl
  obtain⟨⟨h0,h1⟩,h2⟩:=h
  have c:=ZCG hC xs ys hl
  have n2:¬((xs.length:Int)+ys.length<0):=by omega
  have n1:¬((xs.length:Int)<0):=by omega
  have n3:(0:Int)<xs.length+ys.length:=by omega
  have e3:((xs.length:Int)+ys.length).toNat=xs.length+ys.length:=by omega
  have a2:Ev C (Zct xs ys 2 ((xs.length:Int)+ys.length) 2) (Zb3 xs ys 2 ((xs.length:Int)+ys.length) 2) (ZdY 61 (.row 0 0) (some ⟨3,1, .ints .i64 (xs++ys)⟩)):=
   tgo hC ZaP Zew (by
    simp[Zc7,n2,n3,e3]
    repeat refine⟨by omega,?_⟩
    simpa using c)
  have a1:Ev C (Zct xs ys 2 xs.length 1) (Zb3 xs ys 2 xs.length 1) (ZdY 61 (.row 0 0) (some ⟨3,1, .ints .i64 (xs++ys)⟩)):=
   tgo hC ZaP Zew (by
    simp[Zc7,n2]
    repeat refine⟨by omega,?_⟩
    simpa using a2)
  have a0:Ev C (Zct xs ys 2 0 0) (Zb3 xs ys 2 0 0) (ZdY 61 (.row 0 0) (some ⟨3,1, .ints .i64 (xs++ys)⟩)):=
   tgo hC ZaP Zew (by
    simp[Zc7,n1]
    repeat refine⟨by omega,?_⟩
    simpa using a1)
  simp[ZxW]
  simpa using a0)
theorem ZnG{w:World}{ok:Nat→Prop}{h:Zac}{L:Lay}{r1 r2:Row}{v:Value}(e:r1.elems=r2.elems)(hr:Rel w ok h L (.list r1) v):Rel w ok h L (.list r2) v:=by
 cases hr with
 |nil _ a c hn=>exact .nil r2 a c (e▸hn)
 |list _ zs hx ad n cap sz cs hb hok hn hcap hsz hl h1 hc hp hr=>exact .list r2 zs (hx.trans e) ad n cap sz cs hb hok hn hcap hsz hl h1 hc hp hr
theorem Zjj(xs ys:List Int)(hl:(0<xs.length∧xs.length≤1000000)∧ys.length≤1000000):Zae Tryz.prog 61 [.list (.big (.ints .i64) [.list (.ints .i64 xs), .list (.ints .i64 ys)])] (.row 0 0) (some ⟨3,1, .ints .i64 (xs++ys)⟩):=by
 intro w okA L vs hargs
 obtain⟨x,rfl,hx⟩:=Zif hargs
 exact Zgz xs ys hl w okA L _ (RelL.cons (ZnG (show (Row.big (.ints .i64) [.list (.ints .i64 xs), .list (.ints .i64 ys)]).elems=(Row.gen [.list (.ints .i64 xs), .list (.ints .i64 ys)]).elems from rfl) hx) RelL.nil)
attribute [irreducible] rdL rdB
def k32:Ctr:=⟨32,0,fun _ a=>match a with |[.str s, .int .i64 few]=>some (decide (s.length<1000000), .tup [.list (.ints .i64 (rdL s)), .bool (rdB s few)],Zuz) |_=>none⟩
theorem Zwl:k32.OK Tryz.prog:=fun pa args r fr h=>by
 simp only[k32]at h
 split at h
 ·simp only[Option.some.injEq,Prod.mk.injEq,decide_eq_true_eq]at h
  obtain⟨h0,rfl,rfl⟩:=h
  exact Znw _ _ h0
 ·cases h
def k61:Ctr:=⟨61,0,fun _ a=>match a with |[.list (.gen [.list (.ints .i64 xs), .list (.ints .i64 ys)])]=>some (decide ((0<xs.length∧xs.length≤1000000)∧ys.length≤1000000), .row 0 0,some ⟨3,1, .ints .i64 (xs++ys)⟩) |_=>none⟩
theorem Zx7:k61.OK Tryz.prog:=fun pa args r fr h=>by
 simp only[k61]at h
 split at h
 ·simp only[Option.some.injEq,Prod.mk.injEq,decide_eq_true_eq]at h
  obtain⟨h0,rfl,rfl⟩:=h
  exact Zgz _ _ h0
 ·cases h
def k61b:Ctr:=⟨61,0,fun _ a=>match a with |[.list (.big (.ints .i64) [.list (.ints .i64 xs), .list (.ints .i64 ys)])]=>some (decide ((0<xs.length∧xs.length≤1000000)∧ys.length≤1000000), .row 0 0,some ⟨3,1, .ints .i64 (xs++ys)⟩) |_=>none⟩
theorem ZtA:k61b.OK Tryz.prog:=fun pa args r fr h=>by
 simp only[k61b]at h
 split at h
 ·simp only[Option.some.injEq,Prod.mk.injEq,decide_eq_true_eq]at h
  obtain⟨h0,rfl,rfl⟩:=h
  exact Zjj _ _ h0
 ·cases h
def N5:List Ctr:=[k32,k61,k61b]++N4
theorem Zcd:ZaK Tryz.prog N5:=⟨Zwl,⟨Zx7,⟨ZtA,ZAi⟩⟩⟩
end Go.Proofs.YthfcimmcccocmaaGreatDoor
/- Paths of functions, printed by the explorer (Gx). No condition. -/
namespace Go.Proofs.YthfcimmcccocmaaGreatDoor
set_option maxRecDepth 100000
set_option linter.unusedVariables false
def Zx8(xs ys:List Int):AFrame:={ fn:=30,N:=25,env:=[(0,AV.list (.ints .i64 xs)),(1,AV.list (.ints .i64 ys))],todo:=[.code a30.code],defs:=[],rnd:=none,ret:=false,res:=[ARes.tmp 4] }
def ZCD(xs ys:List Int):List AFrame:=[(Zx8 xs ys)]
theorem ZsQ(xs ys:List Int):Zap tab 30 [AV.list (.ints .i64 xs),AV.list (.ints .i64 ys)]=some (Zx8 xs ys):=rfl
def ZgA(n0:Int)(l1:List Int):List AFrame:=[{ fn:=30,N:=25,env:=[(5,AV.nils),(11,AV.row 30012 0),(12,AV.int .i64 n0),(13,AV.int .i64 0)],todo:=.code (ACode.gh [] ZsG)::ZvQ,defs:=[],rnd:=none,ret:=false,res:=[ARes.tmp 4] }]
def Zeo(n0:Int)(l1:List Int):Zac:=[(30012,{ base:=0,blks:=[Blk.row 3 1 (.ints .i64 l1)] })]
abbrev Zl6(n0:Int)(l1:List Int):List AFrame×Zac:=(ZgA n0 l1,Zeo n0 l1)
def Zf9(n0:Int)(l1:List Int)(n2:Int)(x3:List AV):List AFrame:=[{ fn:=30,N:=25,env:=[(5,AV.row 30022 0),(11,AV.row 30012 0),(12,AV.int .i64 n0),(13,AV.int .i64 n2)],todo:=.code (ACode.gh [] ZsG)::ZvQ,defs:=[],rnd:=none,ret:=false,res:=[ARes.tmp 4] }]
def ZeB(n0:Int)(l1:List Int)(n2:Int)(x3:List AV):Zac:=[(30012,{ base:=0,blks:=[Blk.row 3 1 (.ints .i64 l1)] }),(30022,{ base:=0,blks:=[Blk.row 9 1 (Row.big Sh.str x3)] })]
abbrev Zhn(n0:Int)(l1:List Int)(n2:Int)(x3:List AV):List AFrame×Zac:=(Zf9 n0 l1 n2 x3,ZeB n0 l1 n2 x3)
def Zx6(A:Ar)(K:KT)(F:FT)(xs ys:List Int):Prop:=rB [decide ((0<List.length xs∧List.length xs≤1000000)∧List.length ys≤1000000),List.all [AV.list (.ints .i64 xs),AV.list (.ints .i64 ys)] fun x=>AV.bx x&&Nat.beq (Zag A x) 1] (K (Zl6 (A.int (A.len (List.append xs ys))) (List.append xs ys)))
theorem ZzO{A:Ar}{K:KT}{F:FT}{M:MT}{xs ys:List Int} :Zat A tab N5 30 K F M (.run 21 (.hd)) (ZCD xs ys) []=Zx6 A K F xs ys:=by kernel_rfl
def ZhN(A:Ar)(K:KT)(F:FT)(n0:Int)(l1:List Int):Prop:=bB (A.lt 0 n0) (rB [A.inR .i64 (A.add 0 1),Zah (Nat.ble (A.lenA [AV.str (Go.Lib.itoa (A.nth l1 (A.nat 0)))]) 4294967296) (Nat.blt 0 (A.lenA [AV.str (Go.Lib.itoa (A.nth l1 (A.nat 0)))])),List.all [AV.str (Go.Lib.itoa (A.nth l1 (A.nat 0)))] fun x=>AV.bx x&&Nat.beq (Zag A x) 1,decide (Zdf (A.nth l1 (A.nat 0))=true),Zah (Nat.blt (A.nat 0) (A.len l1)) true,Zah (A.le 0 0) (Nat.blt (A.nat 0) (A.len l1))] (K (Zhn (n0) (l1) (A.add 0 1) ([AV.str (Go.Lib.itoa (A.nth l1 (A.nat 0)))])))) (rB [A.eq (A.int 0) 0] (F (AV.str []) (none)))
theorem Zmt{A:Ar}{K:KT}{F:FT}{M:MT}{n0:Int}{l1:List Int} :Zat A tab N5 30 K F M (.run 6 (.tf (.run 24 (.hd)) (.run 21 (.ty (.run 9 (.fn)))))) (ZgA n0 l1) (Zeo n0 l1)=ZhN A K F n0 l1:=by kernel_rfl
def Zet(A:Ar)(K:KT)(F:FT)(n0:Int)(l1:List Int)(n2:Int)(x3:List AV):Prop:=bB (A.lt n2 n0) (rB [A.inR .i64 (A.add n2 1),Nat.ble (A.lenA x3+A.lenA [AV.str (Go.Lib.itoa (A.nth l1 (A.nat n2)))]) 4294967296,List.all [AV.str (Go.Lib.itoa (A.nth l1 (A.nat n2)))] fun x=>AV.bx x&&Nat.beq (Zag A x) 1,decide (Zdf (A.nth l1 (A.nat n2))=true),Zah (Nat.blt (A.nat n2) (A.len l1)) true,Zah (A.le 0 n2) (Nat.blt (A.nat n2) (A.len l1))] (K (Zhn (n0) (l1) (A.add n2 1) (A.appA x3 [AV.str (Go.Lib.itoa (A.nth l1 (A.nat n2)))])))) (rB [decide (List.length x3≤1000000∧List.length (Go.Lib.join (List.map AV.toS x3) [32])≤1000000)] (F (AV.str (Go.Lib.join (List.map AV.toS x3) [32])) (none)))
theorem ZhH{A:Ar}{K:KT}{F:FT}{M:MT}{n0:Int}{l1:List Int}{n2:Int}{x3:List AV} :Zat A tab N5 30 K F M (.run 6 (.tf (.run 24 (.hd)) (.run 8 (.fn)))) (Zf9 n0 l1 n2 x3) (ZeB n0 l1 n2 x3)=Zet A K F n0 l1 n2 x3:=by kernel_rfl
def ZvT(s:List UInt8)(few:Int):AFrame:={ fn:=37,N:=42,env:=[(0,AV.str s),(1,AV.int .i64 few)],todo:=[.code a37.code],defs:=[],rnd:=none,ret:=false,res:=[ARes.tmp 4,ARes.tmp 5] }
def ZCh(s:List UInt8)(few:Int):List AFrame:=[(ZvT s few)]
theorem ZsO(s:List UInt8)(few:Int):Zap tab 37 [AV.str s,AV.int .i64 few]=some (ZvT s few):=rfl
def ZfF(few:Int)(x0:List AV):List AFrame:=[{ fn:=37,N:=42,env:=[(1,AV.int .i64 few),(6,AV.row 37013 0),(7,AV.nils),(8,AV.int .i64 0)],todo:=.code (ACode.gh [] Zub)::Zxx,defs:=[],rnd:=none,ret:=false,res:=[ARes.tmp 4,ARes.tmp 5] }]
def ZeP(few:Int)(x0:List AV):Zac:=[(37013,{ base:=0,blks:=[Blk.row 9 1 (Row.big Sh.str x0)] })]
abbrev ZmJ(few:Int)(x0:List AV):List AFrame×Zac:=(ZfF few x0,ZeP few x0)
def ZfC(few:Int)(x0:List AV)(n1:Int)(l2:List Int):List AFrame:=[{ fn:=37,N:=42,env:=[(1,AV.int .i64 few),(6,AV.row 37013 0),(7,AV.row 37037 0),(8,AV.int .i64 n1)],todo:=.code (ACode.gh [] Zub)::Zxx,defs:=[],rnd:=none,ret:=false,res:=[ARes.tmp 4,ARes.tmp 5] }]
def ZeG(few:Int)(x0:List AV)(n1:Int)(l2:List Int):Zac:=[(37013,{ base:=0,blks:=[Blk.row 9 1 (Row.big Sh.str x0)] }),(37037,{ base:=0,blks:=[Blk.row 3 1 (.ints .i64 l2)] })]
abbrev Zhv(few:Int)(x0:List AV)(n1:Int)(l2:List Int):List AFrame×Zac:=(ZfC few x0 n1 l2,ZeG few x0 n1 l2)
def ZuV(A:Ar)(K:KT)(F:FT)(s:List UInt8)(few:Int):Prop:=rB [decide (List.length s≤1000000)] (K (ZmJ (few) (Zm0 s 32)))
theorem Zzh{A:Ar}{K:KT}{F:FT}{M:MT}{s:List UInt8}{few:Int} :Zat A tab N5 37 K F M (.run 23 (.hd)) (ZCh s few) []=ZuV A K F s few:=by kernel_rfl
def ZcR(A:Ar)(K:KT)(F:FT)(few:Int)(x0:List AV):Prop:=bB (A.lt 0 (A.int (A.lenA x0))) (rB [decide ((3:Int)≤18∧List.length (AV.toS (A.nthA x0 (A.nat 0)))≤1000000),Zah (Nat.blt (A.nat 0) (A.lenA x0)) true,Zah (A.le 0 0) (Nat.blt (A.nat 0) (A.lenA x0))] (bB (A.not (ZgO (AV.toS (A.nthA x0 (A.nat 0))) 3)) (F (AV.tup [AV.nils,AV.bool false]) (none)) (bB (A.lt (Zbc (AV.toS (A.nthA x0 (A.nat 0))) 3) 0) (F (AV.tup [AV.nils,AV.bool false]) (none)) (rB [A.inR .i64 (A.add 0 1),Zah (Nat.ble (A.len [Zbc (AV.toS (A.nthA x0 (A.nat 0))) 3]) 4294967296) (Nat.blt 0 (A.len [Zbc (AV.toS (A.nthA x0 (A.nat 0))) 3])),List.all [AV.int .i64 (Zbc (AV.toS (A.nthA x0 (A.nat 0))) 3)] fun x=>AV.bx x&&Nat.beq (Zag A x) 1] (K (Zhv (few) (x0) (A.add 0 1) ([Zbc (AV.toS (A.nthA x0 (A.nat 0))) 3]))))))) (F (AV.tup [AV.nils,AV.bool (A.le few (A.int 0))]) (none))
theorem Zmf{A:Ar}{K:KT}{F:FT}{M:MT}{few:Int}{x0:List AV} :Zat A tab N5 37 K F M (.run 9 (.tf (.run 23 (.tf (.ty (.ty (.run 1 (.ty (.run 6 (.fn)))))) (.fy (.fy (.run 1 (.tf (.run 6 (.fn)) (.run 16 (.hd)))))))) (.run 12 (.fn)))) (ZfF few x0) (ZeP few x0)=ZcR A K F few x0:=by kernel_rfl
def ZbU(A:Ar)(K:KT)(F:FT)(few:Int)(x0:List AV)(n1:Int)(l2:List Int):Prop:=bB (A.lt n1 (A.int (A.lenA x0))) (rB [decide ((3:Int)≤18∧List.length (AV.toS (A.nthA x0 (A.nat n1)))≤1000000),Zah (Nat.blt (A.nat n1) (A.lenA x0)) true,Zah (A.le 0 n1) (Nat.blt (A.nat n1) (A.lenA x0))] (bB (A.not (ZgO (AV.toS (A.nthA x0 (A.nat n1))) 3)) (F (AV.tup [AV.nils,AV.bool false]) (none)) (bB (A.lt (Zbc (AV.toS (A.nthA x0 (A.nat n1))) 3) 0) (F (AV.tup [AV.nils,AV.bool false]) (none)) (rB [A.inR .i64 (A.add n1 1),Nat.ble (A.len l2+A.len [Zbc (AV.toS (A.nthA x0 (A.nat n1))) 3]) 4294967296,List.all [AV.int .i64 (Zbc (AV.toS (A.nthA x0 (A.nat n1))) 3)] fun x=>AV.bx x&&Nat.beq (Zag A x) 1] (K (Zhv (few) (x0) (A.add n1 1) (A.app l2 [Zbc (AV.toS (A.nthA x0 (A.nat n1))) 3]))))))) (F (AV.tup [AV.row 0 0,AV.bool (A.le few (A.int (A.len l2)))]) (some { e:=3,sz:=1,r:=.ints .i64 l2 }))
theorem ZhE{A:Ar}{K:KT}{F:FT}{M:MT}{few:Int}{x0:List AV}{n1:Int}{l2:List Int} :Zat A tab N5 37 K F M (.run 9 (.tf (.run 23 (.tf (.ty (.ty (.run 1 (.ty (.run 6 (.fn)))))) (.fy (.fy (.run 1 (.tf (.run 6 (.fn)) (.run 16 (.hd)))))))) (.run 12 (.fn)))) (ZfC few x0 n1 l2) (ZeG few x0 n1 l2)=ZbU A K F few x0 n1 l2:=by kernel_rfl
def ZuJ(xs:List Int):AFrame:={ fn:=39,N:=23,env:=[(0,AV.list (.ints .i64 xs))],todo:=[.code a39.code],defs:=[],rnd:=none,ret:=false,res:=[ARes.tmp 2] }
def ZCU(xs:List Int):List AFrame:=[(ZuJ xs)]
theorem Zux(xs:List Int):Zap tab 39 [AV.list (.ints .i64 xs)]=some (ZuJ xs):=rfl
def Zgi(xs:List Int)(l0:List UInt8)(n1:Int):List AFrame:=[{ fn:=39,N:=23,env:=[(0,AV.list (.ints .i64 xs)),(3,AV.str l0),(4,AV.int .i64 n1)],todo:=.code (ACode.gh [] ZuY)::ZAe,defs:=[],rnd:=none,ret:=false,res:=[ARes.tmp 2] }]
def Zek(xs:List Int)(l0:List UInt8)(n1:Int):Zac:=[]
abbrev Zex(xs:List Int)(l0:List UInt8)(n1:Int):List AFrame×Zac:=(Zgi xs l0 n1,Zek xs l0 n1)
def Zw8(A:Ar)(K:KT)(F:FT)(xs:List Int):Prop:=K (Zex (xs) ([]) (0))
theorem Zyx{A:Ar}{K:KT}{F:FT}{M:MT}{xs:List Int} :Zat A tab N5 39 K F M (.run 16 (.hd)) (ZCU xs) []=Zw8 A K F xs:=by kernel_rfl
def ZcP(A:Ar)(K:KT)(F:FT)(xs:List Int)(l0:List UInt8)(n1:Int):Prop:=bB (A.lt n1 (A.int (A.len xs))) (bB (A.lt 0 n1) (rB [A.inR .i64 (A.add n1 1),Nat.ble (A.lenS (A.appS l0 [32])+A.lenS (Go.Lib.itoa (A.nth xs (A.nat n1)))) 4294967296,decide (Zdf (A.nth xs (A.nat n1))=true),Zah (Zah (A.le 0 n1) (Nat.blt (A.nat n1) (A.len xs))) true,Nat.ble (A.lenS l0+A.lenS [32]) 4294967296] (K (Zex (xs) (A.appS (A.appS l0 [32]) (Go.Lib.itoa (A.nth xs (A.nat n1)))) (A.add n1 1)))) (rB [A.inR .i64 (A.add n1 1),Nat.ble (A.lenS l0+A.lenS (Go.Lib.itoa (A.nth xs (A.nat n1)))) 4294967296,decide (Zdf (A.nth xs (A.nat n1))=true),Zah (Zah (A.le 0 n1) (Nat.blt (A.nat n1) (A.len xs))) true] (K (Zex (xs) (A.appS l0 (Go.Lib.itoa (A.nth xs (A.nat n1)))) (A.add n1 1))))) (F (AV.str l0) (none))
theorem ZgX{A:Ar}{K:KT}{F:FT}{M:MT}{xs:List Int}{l0:List UInt8}{n1:Int} :Zat A tab N5 39 K F M (.run 9 (.tf (.run 9 (.tf (.run 23 (.hd)) (.run 19 (.hd)))) (.run 7 (.fn)))) (Zgi xs l0 n1) (Zek xs l0 n1)=ZcP A K F xs l0 n1:=by kernel_rfl
def ZuL(a b:Int)(xs:List Int):AFrame:={ fn:=17,N:=20,env:=[(0,AV.agg (Row.gen [AV.int .i64 a,AV.int .i64 b,AV.list (.ints .i64 xs)]))],todo:=[.code a17.code],defs:=[],rnd:=none,ret:=false,res:=[ARes.tmp 2] }
def ZCi(a b:Int)(xs:List Int):List AFrame:=[(ZuL a b xs)]
theorem Ztw(a b:Int)(xs:List Int):Zap tab 17 [AV.agg (Row.gen [AV.int .i64 a,AV.int .i64 b,AV.list (.ints .i64 xs)])]=some (ZuL a b xs):=rfl
def ZuU(A:Ar)(K:KT)(F:FT)(a b:Int)(xs:List Int):Prop:=bB (A.not (Zan a 0 255)) (F (AV.int .i64 2) (none)) (bB (A.not (Zan b 0 255)) (F (AV.int .i64 2) (none)) (bB (A.lt 40 (A.int (A.len xs))) (F (AV.int .i64 8) (none)) (rB [decide (List.length xs≤1000000)] (F (AV.int .i64 (ZaQ xs)) (none)))))
theorem ZzZ{A:Ar}{K:KT}{F:FT}{M:MT}{a b:Int}{xs:List Int} :Zat A tab N5 17 K F M (.run 13 (.tf (.ty (.ty (.ty (.ty (.run 2 (.ty (.run 5 (.fn)))))))) (.fy (.fy (.fy (.fy (.run 2 (.tf (.run 5 (.fn)) (.run 9 (.tf (.run 5 (.fn)) (.run 9 (.fn)))))))))))) (ZCi a b xs) []=ZuU A K F a b xs:=by kernel_rfl
def Zvv(n m a b c:Int)(xs:List Int):AFrame:={ fn:=18,N:=40,env:=[(0,AV.agg (Row.gen [AV.int .i64 n,AV.int .i64 m])),(1,AV.agg (Row.gen [AV.int .i64 a,AV.int .i64 b,AV.int .i64 c,AV.list (.ints .i64 xs)]))],todo:=[.code a18.code],defs:=[],rnd:=none,ret:=false,res:=[ARes.tmp 4] }
def ZCB(n m a b c:Int)(xs:List Int):List AFrame:=[(Zvv n m a b c xs)]
theorem Zth(n m a b c:Int)(xs:List Int):Zap tab 18 [AV.agg (Row.gen [AV.int .i64 n,AV.int .i64 m]),AV.agg (Row.gen [AV.int .i64 a,AV.int .i64 b,AV.int .i64 c,AV.list (.ints .i64 xs)])]=some (Zvv n m a b c xs):=rfl
def Zxi(A:Ar)(K:KT)(F:FT)(n m a b c:Int)(xs:List Int):Prop:=rB [A.inR .i64 (A.sub m 1)] (bB (A.not (Zan a 0 (A.sub m 1))) (rB [A.not (A.eq 6 0)] (F (AV.int .i64 6) (none))) (rB [!A.not (A.eq 0 0)] (bB (A.not (Zan b 0 63)) (F (AV.int .i64 2) (none)) (rB [A.inR .i64 (A.sub n 1)] (bB (A.not (Zan c 0 (A.sub n 1))) (bB (A.not (A.eq c 255)) (F (AV.int .i64 2) (none)) (bB (A.not (A.eq (A.int (A.len xs)) n)) (F (AV.int .i64 10) (none)) (rB [decide (List.length xs≤1000000)] (F (AV.int .i64 (ZaQ xs)) (none))))) (bB (A.not (A.eq (A.int (A.len xs)) n)) (F (AV.int .i64 10) (none)) (rB [decide (List.length xs≤1000000)] (F (AV.int .i64 (ZaQ xs)) (none)))))))))
theorem Zy3{A:Ar}{K:KT}{F:FT}{M:MT}{n m a b c:Int}{xs:List Int} :Zat A tab N5 18 K F M (.run 28 (.tf (.run 13 (.ty (.run 6 (.fn)))) (.run 14 (.fy (.run 9 (.tf (.ty (.ty (.ty (.ty (.ty (.ty (.ty (.run 3 (.ty (.ty (.run 2 (.ty (.run 5 (.fn)))))))))))))) (.fy (.fy (.fy (.fy (.fy (.fy (.fy (.tf (.ty (.ty (.alt [false,true] (.fy (.run 2 (.tf (.run 5 (.fn)) (.run 11 (.tf (.run 5 (.fn)) (.run 9 (.fn))))))) (.no)))) (.fy (.fy (.alt [false,false] (.fy (.run 2 (.fy (.run 11 (.tf (.run 5 (.fn)) (.run 9 (.fn))))))) (.no)))))))))))))))))) (ZCB n m a b c xs) []=Zxi A K F n m a b c xs:=by kernel_rfl
def ZuR(a b c:Int)(xs:List Int)(a1 b1 c1:Int)(ys:List Int):AFrame:={ fn:=15,N:=31,env:=[(0,AV.agg (Row.gen [AV.int .i64 a,AV.int .i64 b,AV.int .i64 c,AV.list (.ints .i64 xs)])),(1,AV.agg (Row.gen [AV.int .i64 a1,AV.int .i64 b1,AV.int .i64 c1,AV.list (.ints .i64 ys)]))],todo:=[.code a15.code],defs:=[],rnd:=none,ret:=false,res:=[ARes.tmp 4] }
def ZCa(a b c:Int)(xs:List Int)(a1 b1 c1:Int)(ys:List Int):List AFrame:=[(ZuR a b c xs a1 b1 c1 ys)]
theorem Zuf(a b c:Int)(xs:List Int)(a1 b1 c1:Int)(ys:List Int):Zap tab 15 [AV.agg (Row.gen [AV.int .i64 a,AV.int .i64 b,AV.int .i64 c,AV.list (.ints .i64 xs)]),AV.agg (Row.gen [AV.int .i64 a1,AV.int .i64 b1,AV.int .i64 c1,AV.list (.ints .i64 ys)])]=some (ZuR a b c xs a1 b1 c1 ys):=rfl
def Zv9(A:Ar)(K:KT)(F:FT)(a b c:Int)(xs:List Int)(a1 b1 c1:Int)(ys:List Int):Prop:=bB (A.eq a a1) (bB (A.eq b b1) (bB (A.eq c c1) (rB [decide (List.length xs≤1000000)] (F (AV.bool (decide (xs=ys))) (none))) (F (AV.bool false) (none))) (F (AV.bool false) (none))) (F (AV.bool false) (none))
theorem ZzD{A:Ar}{K:KT}{F:FT}{M:MT}{a b c:Int}{xs:List Int}{a1 b1 c1:Int}{ys:List Int} :Zat A tab N5 15 K F M (.run 14 (.tf (.ty (.ty (.ty (.ty (.ty (.run 1 (.tf (.ty (.ty (.ty (.ty (.ty (.run 1 (.tf (.ty (.ty (.ty (.ty (.ty (.run 4 (.fn))))))) (.fy (.fy (.fy (.fy (.fy (.run 4 (.fn)))))))))))))) (.fy (.fy (.fy (.fy (.fy (.run 1 (.fy (.fy (.fy (.fy (.fy (.fy (.run 4 (.fn))))))))))))))))))))) (.fy (.fy (.fy (.fy (.fy (.run 1 (.fy (.fy (.fy (.fy (.fy (.fy (.run 1 (.fy (.fy (.fy (.fy (.fy (.fy (.run 4 (.fn))))))))))))))))))))))) (ZCa a b c xs a1 b1 c1 ys) []=Zv9 A K F a b c xs a1 b1 c1 ys:=by kernel_rfl
def ZvS(a b:Int)(xs:List Int)(a1 b1:Int)(ys:List Int):AFrame:={ fn:=16,N:=24,env:=[(0,AV.agg (Row.gen [AV.int .i64 a,AV.int .i64 b,AV.list (.ints .i64 xs)])),(1,AV.agg (Row.gen [AV.int .i64 a1,AV.int .i64 b1,AV.list (.ints .i64 ys)]))],todo:=[.code a16.code],defs:=[],rnd:=none,ret:=false,res:=[ARes.tmp 4] }
def ZCA(a b:Int)(xs:List Int)(a1 b1:Int)(ys:List Int):List AFrame:=[(ZvS a b xs a1 b1 ys)]
theorem ZsN(a b:Int)(xs:List Int)(a1 b1:Int)(ys:List Int):Zap tab 16 [AV.agg (Row.gen [AV.int .i64 a,AV.int .i64 b,AV.list (.ints .i64 xs)]),AV.agg (Row.gen [AV.int .i64 a1,AV.int .i64 b1,AV.list (.ints .i64 ys)])]=some (ZvS a b xs a1 b1 ys):=rfl
def Zvt(A:Ar)(K:KT)(F:FT)(a b:Int)(xs:List Int)(a1 b1:Int)(ys:List Int):Prop:=bB (A.eq a a1) (bB (A.eq b b1) (rB [decide (List.length xs≤1000000)] (F (AV.bool (decide (xs=ys))) (none))) (F (AV.bool false) (none))) (F (AV.bool false) (none))
theorem ZyW{A:Ar}{K:KT}{F:FT}{M:MT}{a b:Int}{xs:List Int}{a1 b1:Int}{ys:List Int} :Zat A tab N5 16 K F M (.run 14 (.tf (.ty (.ty (.ty (.ty (.ty (.run 1 (.tf (.ty (.ty (.ty (.ty (.ty (.run 4 (.fn))))))) (.fy (.fy (.fy (.fy (.fy (.run 4 (.fn)))))))))))))) (.fy (.fy (.fy (.fy (.fy (.run 1 (.fy (.fy (.fy (.fy (.fy (.fy (.run 4 (.fn)))))))))))))))) (ZCA a b xs a1 b1 ys) []=Zvt A K F a b xs a1 b1 ys:=by kernel_rfl
def ZA3(a b c:Int)(xs:List Int):AFrame:={ fn:=6,N:=8,env:=[(0,AV.agg (Row.gen [AV.int .i64 a,AV.int .i64 b,AV.int .i64 c,AV.list (.ints .i64 xs)]))],todo:=[.code a6.code],defs:=[],rnd:=none,ret:=false,res:=[ARes.cell 2 true 4] }
def g6e(a b c:Int)(xs:List Int):List AFrame:=[(ZA3 a b c xs)]
theorem ZvG(a b c:Int)(xs:List Int):Zap tab 6 [AV.agg (Row.gen [AV.int .i64 a,AV.int .i64 b,AV.int .i64 c,AV.list (.ints .i64 xs)])]=some (ZA3 a b c xs):=rfl
def ZBi(A:Ar)(K:KT)(F:FT)(a b c:Int)(xs:List Int):Prop:=rB [decide (List.length xs≤1000000)] (F (AV.agg (Row.gen [.int .i64 a, .int .i64 b, .int .i64 c, .list (.ints .i64 xs)])) (none))
theorem ZCW{A:Ar}{K:KT}{F:FT}{M:MT}{a b c:Int}{xs:List Int} :Zat A tab N5 6 K F M (.run 19 (.fn)) (g6e a b c xs) []=ZBi A K F a b c xs:=by kernel_rfl
def ZBy(a b:Int)(xs:List Int):AFrame:={ fn:=8,N:=8,env:=[(0,AV.agg (Row.gen [AV.int .i64 a,AV.int .i64 b,AV.list (.ints .i64 xs)]))],todo:=[.code a8.code],defs:=[],rnd:=none,ret:=false,res:=[ARes.cell 2 true 3] }
def g8e(a b:Int)(xs:List Int):List AFrame:=[(ZBy a b xs)]
theorem ZxF(a b:Int)(xs:List Int):Zap tab 8 [AV.agg (Row.gen [AV.int .i64 a,AV.int .i64 b,AV.list (.ints .i64 xs)])]=some (ZBy a b xs):=rfl
def ZBk(A:Ar)(K:KT)(F:FT)(a b:Int)(xs:List Int):Prop:=rB [decide (List.length xs≤1000000)] (F (AV.agg (Row.gen [.int .i64 a, .int .i64 b, .list (.ints .i64 xs)])) (none))
theorem ZC9{A:Ar}{K:KT}{F:FT}{M:MT}{a b:Int}{xs:List Int} :Zat A tab N5 8 K F M (.run 19 (.fn)) (g8e a b xs) []=ZBk A K F a b xs:=by kernel_rfl
def ZuX(a:Int):AFrame:={ fn:=68,N:=5,env:=[(0,AV.int .i64 a)],todo:=[.code a68.code],defs:=[],rnd:=none,ret:=false,res:=[ARes.tmp 2] }
def ZB5(a:Int):List AFrame:=[(ZuX a)]
theorem Ztf(a:Int):Zap tab 68 [AV.int .i64 a]=some (ZuX a):=rfl
def Zve(A:Ar)(K:KT)(F:FT)(a:Int):Prop:=bB (A.le 0 a) (F (AV.bool (A.le a 255)) (none)) (F (AV.bool false) (none))
theorem ZAC{A:Ar}{K:KT}{F:FT}{M:MT}{a:Int} :Zat A tab N5 68 K F M (.run 18 (.tf (.ty (.ty (.ty (.run 8 (.fn))))) (.fy (.fy (.fy (.run 8 (.fn))))))) (ZB5 a) []=Zve A K F a:=by kernel_rfl
end Go.Proofs.YthfcimmcccocmaaGreatDoor
/- Contracts as a list. No condition. -/
namespace Go.Proofs.YthfcimmcccocmaaGreatDoor
def nsG(xs:List Int):Bool:=decide (xs.length≤1000)&&xs.all Zdf
theorem nsG_iff{xs:List Int} :nsG xs=true↔xs.length≤1000∧∀x∈xs,Zdf x=true:=by simp[nsG]
theorem Znf(n:Int)(h:Zdf n=true):(Lib.itoa n).length≤21:=by
 obtain⟨a,b⟩:=i64B_iff.1 h
 exact Lib.itoa_length_le n a b
theorem ZoE(p x:List UInt8):∀xs:List (List UInt8),Lib.join (xs++[x]) p=if xs=[]then x else Lib.join xs p++p++x
 |[]=>by simp[Lib.join_one]
 |y::ys=>by
  rw[List.cons_append,Lib.join_cons,Lib.join_cons,if_neg (by simp)]
  simp[Lib.joinTail]
theorem ZnQ{xs:List Int}(h:nsG xs=true)(k:Nat):(Lib.join ((xs.take k).map Lib.itoa) [32]).length≤22000:=by
 obtain⟨h1,h2⟩:=nsG_iff.1 h
 have:=Zss [32] 21 ((xs.take k).map Lib.itoa) (by
  intro x hx
  obtain⟨y,hy,rfl⟩:=List.mem_map.1 hx
  exact Znf y (h2 y (List.mem_of_mem_take hy)))
 rw[List.length_map,List.length_take]at this
 exact Nat.le_trans this (Nat.mul_le_mul_right 22 (show min k xs.length≤1000 by omega))
section
variable {C:Ctx}(hC:C.P=Tryz.prog)
include hC
theorem Znv(xs:List Int)(hg:nsG xs=true):∀m k:Nat,k+m=xs.length→Ev C (Zgi xs (Lib.join ((xs.take k).map Lib.itoa) [32]) k) (Zek xs (Lib.join ((xs.take k).map Lib.itoa) [32]) k) (ZdY 39 (.str (Lib.join (xs.map Lib.itoa) [32])) none)
 |0,k,hk=>tgo hC Zcd ZgX (by
  obtain rfl:k=xs.length:=by omega
  simp[ZcP])
 |m+1,k,hk=>by
  have ih:=Znv xs hg m (k+1) (by omega)
  have hlt:(k:Int)<xs.length:=by omega
  have hlt2:k<xs.length:=by omega
  have hl:=ZnQ hg k
  obtain⟨h1,h2⟩:=nsG_iff.1 hg
  have h3:=h2 _ (Zd0 (d:=0) hlt2)
  have h4:=Znf _ h3
  have hs:Lib.join ((xs.take (k+1)).map Lib.itoa) [32]=(if 0<k then Lib.join ((xs.take k).map Lib.itoa) [32]++[32]else Lib.join ((xs.take k).map Lib.itoa) [32])++Lib.itoa (xs.getD k 0):=by
   rw[ZfI (d:=0) hlt2,List.map_append,List.map_singleton,ZoE]
   by_cases hk0:0<k
   ·rw[if_neg (fun h=>by have:=congrArg List.length h;rw[List.length_map,List.length_take,List.length_nil]at this;omega),if_pos hk0]
   ·obtain rfl:k=0:=by omega
    simp[Lib.join_nil]
  rw[hs]at ih
  refine tgo hC Zcd ZgX ?_
  by_cases hk0:0<k
  ·rw[if_pos hk0]at ih
   simp[-List.getD_eq_getElem?_getD, -List.map_take,ZcP,hlt,hlt2,hk0,h3]
   exact⟨by omega,by simpa[-List.map_take]using ih⟩
  ·obtain rfl:k=0:=by omega
   simp[-List.getD_eq_getElem?_getD,ZcP,hlt2,Lib.join_nil,h3]at ih⊢
   exact⟨by omega,by simpa using ih⟩
theorem Zol(l1:List Int)(hg:nsG l1=true):∀m k:Nat,k+m=l1.length→Ev C (Zf9 l1.length l1 k ((l1.take k).map fun x=>.str (Lib.itoa x))) (ZeB l1.length l1 k ((l1.take k).map fun x=>.str (Lib.itoa x))) (ZdY 30 (.str (Lib.join (l1.map Lib.itoa) [32])) none)
 |0,k,hk=>tgo hC Zcd ZhH (by
  obtain rfl:k=l1.length:=by omega
  have hl:=ZnQ hg l1.length
  rw[List.take_length]at hl
  obtain⟨h1,h2⟩:=nsG_iff.1 hg
  have e:(l1.map fun x=>AV.str (Lib.itoa x)).map AV.toS=l1.map Lib.itoa:=by rw[List.map_map];rfl
  simp[-List.map_map,Zet,e]
  omega)
 |m+1,k,hk=>by
  have ih:=Zol l1 hg m (k+1) (by omega)
  have hlt:(k:Int)<l1.length:=by omega
  have hlt2:k<l1.length:=by omega
  obtain⟨h1,h2⟩:=nsG_iff.1 hg
  have h3:=h2 _ (Zd0 (d:=0) hlt2)
  rw[ZfI (d:=0) hlt2,List.map_append,List.map_singleton]at ih
  refine tgo hC Zcd ZhH ?_
  simp[-List.getD_eq_getElem?_getD, -List.map_take,Zet,hlt,hlt2,h3,AV.bx,Zag]
  exact⟨by omega,by simpa[-List.map_take]using ih⟩
end
theorem Zjo(xs:List Int)(hg:nsG xs=true):Zae Tryz.prog 39 [.list (.ints .i64 xs)] (.str (Zar xs)) none:=
 start (Zux xs) fun C hC=>tgo hC Zcd Zyx (by
  have:=Znv hC xs hg xs.length 0 (by omega)
  unfold Zar
  simp[Zw8]
  simpa[Lib.join_nil]using this)
theorem Zjp(xs ys:List Int)(hg:nsG (xs++ys)=true∧0<xs.length):Zae Tryz.prog 30 [.list (.ints .i64 xs), .list (.ints .i64 ys)] (.str (Zar (xs++ys))) none:=
 start (ZsQ xs ys) fun C hC=>tgo hC Zcd ZzO (by
  obtain⟨hg,h0⟩:=hg
  obtain⟨h1,h2⟩:=nsG_iff.1 hg
  have hl:(xs++ys).length=xs.length+ys.length:=List.length_append
  have hw:=Zol hC (xs++ys) hg
  unfold Zar
  have ha:Ev C (ZgA ((xs++ys).length:Nat) (xs++ys)) (Zeo ((xs++ys).length:Nat) (xs++ys)) (ZdY 30 (.str (Lib.join ((xs++ys).map Lib.itoa) [32])) none):=tgo hC Zcd Zmt (by
   generalize xs++ys=l at*
   have hp:0<l.length:=by omega
   have h3:=h2 _ (Zd0 (d:=0) hp)
   have:=hw (l.length-1) 1 (by omega)
   rw[ZfI (k:=0) (d:=0) hp,List.map_append,List.map_singleton]at this
   simp[-List.getD_eq_getElem?_getD,ZhN,hp,h3,AV.bx,Zag]
   simpa using this)
  simp[Zx6,AV.bx,Zag]
  exact⟨by omega,by simpa using ha⟩)
theorem ZpA(a b c:Int)(xs:List Int)(h:xs.length≤1000000):Zae Tryz.prog 6 [.agg (.gen [.int .i64 a, .int .i64 b, .int .i64 c, .list (.ints .i64 xs)])] (.agg (.gen [.int .i64 a, .int .i64 b, .int .i64 c, .list (.ints .i64 xs)])) none:=
 start (ZvG a b c xs) fun C hC=>tgo hC Zcd ZCW (by simp[ZBi,h])
theorem Zrn(a b:Int)(xs:List Int)(h:xs.length≤1000000):Zae Tryz.prog 8 [.agg (.gen [.int .i64 a, .int .i64 b, .list (.ints .i64 xs)])] (.agg (.gen [.int .i64 a, .int .i64 b, .list (.ints .i64 xs)])) none:=
 start (ZxF a b xs) fun C hC=>tgo hC Zcd ZC9 (by simp[ZBk,h])
def Ze8(a b c:Int)(xs:List Int)(a1 b1 c1:Int)(ys:List Int):Bool:=decide (a=a1∧b=b1∧c=c1∧xs=ys)
def ZgF(a b:Int)(xs:List Int)(a1 b1:Int)(ys:List Int):Bool:=decide (a=a1∧b=b1∧xs=ys)
theorem Znj(a b c:Int)(xs:List Int)(a1 b1 c1:Int)(ys:List Int)(h:xs.length≤1000000):Zae Tryz.prog 15 [.agg (.gen [.int .i64 a, .int .i64 b, .int .i64 c, .list (.ints .i64 xs)]), .agg (.gen [.int .i64 a1, .int .i64 b1, .int .i64 c1, .list (.ints .i64 ys)])] (.bool (Ze8 a b c xs a1 b1 c1 ys)) none:=
 start (Zuf a b c xs a1 b1 c1 ys) fun C hC=>tgo hC Zcd ZzD (by
  by_cases h1:a=a1<;>by_cases h2:b=b1<;>by_cases h3:c=c1<;>simp[Zv9,h,h1,h2,h3,Ze8])
theorem Zno(a b:Int)(xs:List Int)(a1 b1:Int)(ys:List Int)(h:xs.length≤1000000):Zae Tryz.prog 16 [.agg (.gen [.int .i64 a, .int .i64 b, .list (.ints .i64 xs)]), .agg (.gen [.int .i64 a1, .int .i64 b1, .list (.ints .i64 ys)])] (.bool (ZgF a b xs a1 b1 ys)) none:=
 start (ZsN a b xs a1 b1 ys) fun C hC=>tgo hC Zcd ZyW (by
  by_cases h1:a=a1<;>by_cases h2:b=b1<;>simp[Zvt,h,h1,h2,ZgF])
def pkE(a b:Int)(xs:List Int):Int:=if Zan a 0 255=true then(if Zan b 0 255=true then(if xs.length≤40 then ZaQ xs else 8)else 2)else 2
theorem ZoA(a b:Int)(xs:List Int)(h:xs.length≤1000000):Zae Tryz.prog 17 [.agg (.gen [.int .i64 a, .int .i64 b, .list (.ints .i64 xs)])] (.int .i64 (pkE a b xs)) none:=
 start (Ztw a b xs) fun C hC=>tgo hC Zcd ZzZ (by
  by_cases h1:Zan a 0 255=true<;>by_cases h2:Zan b 0 255=true<;>by_cases h3:xs.length≤40<;>simp[ZuU,h,h1,h2,h3,pkE,show((40:Int)<xs.length)↔¬xs.length≤40 by omega])
def frE(n m a b c:Int)(xs:List Int):Int:=if Zan a 0 (m-1)=true then(if Zan b 0 63=true then(if Zan c 0 (n-1)=true∨c=255 then(if (xs.length:Int)=n then ZaQ xs else 10)else 2)else 2)else 6
theorem ZoI(n m a b c:Int)(xs:List Int)(h:xs.length≤1000000∧(-1000000≤n∧n≤1000000)∧ -1000000≤m∧m≤1000000):Zae Tryz.prog 18 [.agg (.gen [.int .i64 n, .int .i64 m]), .agg (.gen [.int .i64 a, .int .i64 b, .int .i64 c, .list (.ints .i64 xs)])] (.int .i64 (frE n m a b c xs)) none:=
 start (Zth n m a b c xs) fun C hC=>tgo hC Zcd Zy3 (by
  obtain⟨h0,hn,hm⟩:=h
  have r1:std.inR .i64 (m-1)=true:=decide_eq_true ⟨by show(-9223372036854775808:Int)≤_;omega,by show _≤(9223372036854775807:Int);omega⟩
  have r2:std.inR .i64 (n-1)=true:=decide_eq_true ⟨by show(-9223372036854775808:Int)≤_;omega,by show _≤(9223372036854775807:Int);omega⟩
  by_cases h1:Zan a 0 (m-1)=true<;>by_cases h2:Zan b 0 63=true<;>by_cases h3:Zan c 0 (n-1)=true<;>by_cases h4:c=255<;>by_cases h5:(xs.length:Int)=n<;>simp_all[Zxi,frE]<;>omega)
theorem Zn6(a:Int):Zae Tryz.prog 68 [.int .i64 a] (.bool (Zan a 0 255)) none:=
 start (Ztf a) fun C hC=>tgo hC Zcd ZAC (by
  by_cases h:0≤a<;>simp[Zve,h,Zan])
def ZhS(x:AV):Bool:=ZgO x.toS 3&&decide (0≤Zbc x.toS 3)
theorem Zn1(w:List UInt8):okW w=(ZgO w 3&&decide (0≤Zbc w 3))∧(okW w=true→ZaZ w=Zbc w 3):=by
 have:=ZoT w 3 (by decide)
 unfold okW ZgO Zbc
 exact this
section
variable {C:Ctx}(hC:C.P=Tryz.prog)(few:Int)(w:List AV)(hl:w.length≤1000001)(hw:∀x∈w,x.toS.length≤1000000)
include hC hl hw
theorem ZBv:∀(m k:Nat) (xs:List Int),k+m=w.length→xs.length=k→Ev C (ZfC few w k xs) (ZeG few w k xs) (Zre 37 (Zqd ((w.drop k).all ZhS) (xs++(w.drop k).map fun x=>Zbc x.toS 3) few))
 |0,k,xs,hk,hx=>ZrI hC Zcd ZhE (by
  obtain rfl:k=w.length:=by omega
  simp[-List.getD_eq_getElem?_getD,ZbU]
  exact rdR _ _ _ _ _ rfl rfl rfl)
 |m+1,k,xs,hk,hx=>by
  have ih:=fun xs hx=>ZBv m (k+1) xs (by omega) hx
  have hlt:(k:Int)<w.length:=by omega
  have hlt2:k<w.length:=by omega
  have hin:=hw _ (Zd0 (d:=.top) hlt2)
  have e:w.drop k=w.getD k .top::w.drop (k+1):=by
   rw[List.drop_eq_getElem_cons hlt2,List.getD_eq_getElem?_getD,List.getElem?_eq_getElem hlt2];rfl
  rw[e,List.all_cons,List.map_cons]
  refine ZrI hC Zcd ZhE ?_
  by_cases h1:ZgO (w.getD k .top).toS 3=true
  ·by_cases h2:Zbc (w.getD k .top).toS 3<0
   ·have h3:ZhS (w.getD k .top)=false:=by unfold ZhS;rw[h1,decide_eq_false (by omega)];rfl
    simp[-List.getD_eq_getElem?_getD,ZbU,hlt,hlt2,h1,h2,hin]
    exact rdN _ _ _ (by rw[h3];rfl)
   ·have h3:ZhS (w.getD k .top)=true:=by unfold ZhS;rw[h1,decide_eq_true (by omega)];rfl
    have:=ih (xs++[Zbc (w.getD k .top).toS 3]) (by simp[hx])
    rw[List.append_assoc,List.singleton_append]at this
    rw[h3,Bool.true_and]
    simp[-List.getD_eq_getElem?_getD,ZbU,hlt,hlt2,h1,h2,hin,AV.bx,Zag]
    exact⟨by omega,by simpa using this⟩
  ·have h3:ZhS (w.getD k .top)=false:=by unfold ZhS;simp[-List.getD_eq_getElem?_getD,h1]
   simp[-List.getD_eq_getElem?_getD,ZbU,hlt,hlt2,h1,hin]
   exact rdN _ _ _ (by rw[h3];rfl)
theorem ZDa(h0:0<w.length):Ev C (ZfF few w) (ZeP few w) (Zre 37 (Zqd (w.all ZhS) (w.map fun x=>Zbc x.toS 3) few)):=by
 have hin:=hw _ (Zd0 (d:=.top) h0)
 have hb:=ZBv hC few w hl hw (w.length-1) 1 [Zbc (w.getD 0 .top).toS 3] (by omega) rfl
 have e:w=w.getD 0 .top::w.drop 1:=by
  cases w with
  |nil=>simp at h0
  |cons a r=>rfl
 have ea:w.all ZhS=(ZhS (w.getD 0 .top)&&(w.drop 1).all ZhS):=by conv=>lhs;rw[e];rw[List.all_cons]
 have em:(w.map fun x=>Zbc x.toS 3)=Zbc (w.getD 0 .top).toS 3::(w.drop 1).map fun x=>Zbc x.toS 3:=by conv=>lhs;rw[e];rw[List.map_cons]
 rw[ea,em]
 refine ZrI hC Zcd Zmf ?_
 by_cases h1:ZgO (w.getD 0 .top).toS 3=true
 ·by_cases h2:Zbc (w.getD 0 .top).toS 3<0
  ·have h3:ZhS (w.getD 0 .top)=false:=by unfold ZhS;rw[h1,decide_eq_false (by omega)];rfl
   simp[-List.getD_eq_getElem?_getD, -List.drop_one,ZcR,h0,h1,h2,hin]
   exact rdN _ _ _ (by rw[h3];rfl)
  ·have h3:ZhS (w.getD 0 .top)=true:=by unfold ZhS;rw[h1,decide_eq_true (by omega)];rfl
   rw[h3,Bool.true_and]
   simp[-List.getD_eq_getElem?_getD, -List.drop_one,ZcR,h0,h1,h2,hin,AV.bx,Zag]
   simpa[-List.drop_one]using hb
 ·have h3:ZhS (w.getD 0 .top)=false:=by unfold ZhS;simp[-List.getD_eq_getElem?_getD,h1]
  simp[-List.getD_eq_getElem?_getD, -List.drop_one,ZcR,h0,h1,hin]
  exact rdN _ _ _ (by rw[h3];rfl)
end
theorem ZhY(c:UInt8):∀s,(Zbg c s).length≤s.length+1
 |[]=>by simp[Zbg]
 |b::s=>by
  have ih:=ZhY c s
  rw[Zbg]
  split
  ·simp;omega
  ·split
   ·simp
   ·rename_i x r h
    rw[h]at ih
    simp at ih ⊢;omega
theorem Zk5(c:UInt8):∀(s:List UInt8) x,x∈Zbg c s→x.length≤s.length
 |[],x,h=>by simp[Zbg]at h;simp[h]
 |b::s,x,h=>by
  have ih:=Zk5 c s
  rw[Zbg]at h
  split at h
  ·rcases List.mem_cons.1 h with rfl |h
   ·simp
   ·have:=ih x h;simp;omega
  ·split at h
   ·simp at h;simp[h]
   ·rename_i y ys e
    rcases List.mem_cons.1 h with rfl |h
    ·have:=ih y (by rw[e];exact List.mem_cons_self);simp;omega
    ·have:=ih x (by rw[e];exact List.mem_cons_of_mem _ h);simp;omega
theorem ZqO{l:List (List UInt8)}{w:List AV}(hm:w.map AV.toS=l):w.all ZhS=l.all okW∧(l.all okW=true→(w.map fun x=>Zbc x.toS 3)=l.map ZaZ):=by
 subst hm
 constructor
 ·rw[List.all_map]
  refine List.all_congr rfl fun x=>?_
  exact(Zn1 x.toS).1.symm
 ·intro h
  rw[List.map_map]
  refine List.map_congr_left fun x hx=>?_
  have:=List.all_eq_true.1 h x.toS (List.mem_map_of_mem hx)
  exact((Zn1 x.toS).2 this).symm
theorem ZkC(s:List UInt8)(few:Int)(h:s.length<1000000):Zae Tryz.prog 37 [.str s, .int .i64 few] (.tup [.list (.ints .i64 (rdL s)), .bool (rdB s few)]) Zuz:=by
 have hm:=Zp5 s 32
 rw[show (((32:UInt8).toNat:Nat):Int)=32 from rfl]at hm
 have hl:=congrArg List.length hm
 rw[List.length_map]at hl
 have h1:=ZhY 32 s
 have h2:0<(Zbg 32 s).length:=List.length_pos_iff.2 (Zit 32 s)
 have hw:∀x∈Zm0 s 32,x.toS.length≤1000000:=fun x hx=>by
  have:=Zk5 32 s x.toS (by rw[←hm];exact List.mem_map_of_mem hx)
  omega
 obtain⟨a1,a2⟩:=ZqO hm
 have er:(AV.tup [.list (.ints .i64 (rdL s)), .bool (rdB s few)])=Zqd ((Zm0 s 32).all ZhS) ((Zm0 s 32).map fun x=>Zbc x.toS 3) few:=by
  unfold rdL rdB Zqd
  rw[a1]
  cases hb:(Zbg 32 s).all okW with
  |true=>rw[a2 hb]
  |false=>simp
 rw[er]
 exact ZrO (ZsO s few) fun C hC=>ZrI hC Zcd Zzh (by
  have:=ZDa hC few (Zm0 s 32) (by omega) hw (by omega)
  simpa[ZuV,show s.length≤1000000 by omega]using this)
def k30:Ctr:=⟨30,0,fun _ a=>match a with |[.list (.ints .i64 xs), .list (.ints .i64 ys)]=>some (decide (nsG (xs++ys)=true∧0<xs.length), .str (Zar (xs++ys)),none) |_=>none⟩
theorem ZxP:k30.OK Tryz.prog:=fun pa args r fr h=>by
 simp only[k30]at h
 split at h
 ·simp only[Option.some.injEq,Prod.mk.injEq,decide_eq_true_eq]at h
  obtain⟨h0,rfl,rfl⟩:=h
  exact Zjp _ _ h0
 ·cases h
def k39:Ctr:=⟨39,0,fun _ a=>match a with |[.list (.ints .i64 xs)]=>some (decide (nsG xs=true), .str (Zar xs),none) |_=>none⟩
theorem ZwF:k39.OK Tryz.prog:=fun pa args r fr h=>by
 simp only[k39]at h
 split at h
 ·simp only[Option.some.injEq,Prod.mk.injEq,decide_eq_true_eq]at h
  obtain⟨h0,rfl,rfl⟩:=h
  exact Zjo _ h0
 ·cases h
def k37:Ctr:=⟨37,0,fun _ a=>match a with |[.str s, .int .i64 few]=>some (decide (s.length<1000000), .tup [.list (.ints .i64 (rdL s)), .bool (rdB s few)],Zuz) |_=>none⟩
theorem Zvi:k37.OK Tryz.prog:=fun pa args r fr h=>by
 simp only[k37]at h
 split at h
 ·simp only[Option.some.injEq,Prod.mk.injEq,decide_eq_true_eq]at h
  obtain⟨h0,rfl,rfl⟩:=h
  exact ZkC _ _ h0
 ·cases h
def k6:Ctr:=⟨6,0,fun _ a=>match a with |[.agg (.gen [.int .i64 a, .int .i64 b, .int .i64 c, .list (.ints .i64 xs)])]=>some (decide (xs.length≤1000000), .agg (.gen [.int .i64 a, .int .i64 b, .int .i64 c, .list (.ints .i64 xs)]),none) |_=>none⟩
theorem ZAN:k6.OK Tryz.prog:=fun pa args r fr h=>by
 simp only[k6]at h
 split at h
 ·simp only[Option.some.injEq,Prod.mk.injEq,decide_eq_true_eq]at h
  obtain⟨h0,rfl,rfl⟩:=h
  exact ZpA _ _ _ _ h0
 ·cases h
def k8:Ctr:=⟨8,0,fun _ a=>match a with |[.agg (.gen [.int .i64 a, .int .i64 b, .list (.ints .i64 xs)])]=>some (decide (xs.length≤1000000), .agg (.gen [.int .i64 a, .int .i64 b, .list (.ints .i64 xs)]),none) |_=>none⟩
theorem ZAb:k8.OK Tryz.prog:=fun pa args r fr h=>by
 simp only[k8]at h
 split at h
 ·simp only[Option.some.injEq,Prod.mk.injEq,decide_eq_true_eq]at h
  obtain⟨h0,rfl,rfl⟩:=h
  exact Zrn _ _ _ h0
 ·cases h
def k15:Ctr:=⟨15,0,fun _ a=>match a with |[.agg (.gen [.int .i64 a, .int .i64 b, .int .i64 c, .list (.ints .i64 xs)]), .agg (.gen [.int .i64 a1, .int .i64 b1, .int .i64 c1, .list (.ints .i64 ys)])]=>some (decide (xs.length≤1000000), .bool (Ze8 a b c xs a1 b1 c1 ys),none) |_=>none⟩
theorem Zu0:k15.OK Tryz.prog:=fun pa args r fr h=>by
 simp only[k15]at h
 split at h
 ·simp only[Option.some.injEq,Prod.mk.injEq,decide_eq_true_eq]at h
  obtain⟨h0,rfl,rfl⟩:=h
  exact Znj _ _ _ _ _ _ _ _ h0
 ·cases h
def k16:Ctr:=⟨16,0,fun _ a=>match a with |[.agg (.gen [.int .i64 a, .int .i64 b, .list (.ints .i64 xs)]), .agg (.gen [.int .i64 a1, .int .i64 b1, .list (.ints .i64 ys)])]=>some (decide (xs.length≤1000000), .bool (ZgF a b xs a1 b1 ys),none) |_=>none⟩
theorem ZwW:k16.OK Tryz.prog:=fun pa args r fr h=>by
 simp only[k16]at h
 split at h
 ·simp only[Option.some.injEq,Prod.mk.injEq,decide_eq_true_eq]at h
  obtain⟨h0,rfl,rfl⟩:=h
  exact Zno _ _ _ _ _ _ h0
 ·cases h
def k17:Ctr:=⟨17,0,fun _ a=>match a with |[.agg (.gen [.int .i64 a, .int .i64 b, .list (.ints .i64 xs)])]=>some (decide (xs.length≤1000000), .int .i64 (pkE a b xs),none) |_=>none⟩
theorem ZxH:k17.OK Tryz.prog:=fun pa args r fr h=>by
 simp only[k17]at h
 split at h
 ·simp only[Option.some.injEq,Prod.mk.injEq,decide_eq_true_eq]at h
  obtain⟨h0,rfl,rfl⟩:=h
  exact ZoA _ _ _ h0
 ·cases h
def k18:Ctr:=⟨18,0,fun _ a=>match a with |[.agg (.gen [.int .i64 n, .int .i64 m]), .agg (.gen [.int .i64 a, .int .i64 b, .int .i64 c, .list (.ints .i64 xs)])]=>some (decide (xs.length≤1000000∧(-1000000≤n∧n≤1000000)∧ -1000000≤m∧m≤1000000), .int .i64 (frE n m a b c xs),none) |_=>none⟩
theorem Zw9:k18.OK Tryz.prog:=fun pa args r fr h=>by
 simp only[k18]at h
 split at h
 ·simp only[Option.some.injEq,Prod.mk.injEq,decide_eq_true_eq]at h
  obtain⟨h0,rfl,rfl⟩:=h
  exact ZoI _ _ _ _ _ _ h0
 ·cases h
def k68:Ctr:=⟨68,0,fun _ a=>match a with |[.int .i64 a]=>some (true, .bool (Zan a 0 255),none) |_=>none⟩
theorem ZxV:k68.OK Tryz.prog:=fun pa args r fr h=>by
 simp only[k68]at h
 split at h
 ·cases h
  exact Zn6 _
 ·cases h
def N6:List Ctr:=[k30,k39,k37,k6,k8,k15,k16,k17,k18,k68]++N5
theorem ZmH:ZaK Tryz.prog N6:=⟨ZxP,⟨ZwF,⟨Zvi,⟨ZAN,⟨ZAb,⟨Zu0,⟨ZwW,⟨ZxH,⟨Zw9,⟨ZxV,Zcd⟩⟩⟩⟩⟩⟩⟩⟩⟩⟩
end Go.Proofs.YthfcimmcccocmaaGreatDoor
/- Paths of functions, printed by the explorer (Gx). No condition. -/
namespace Go.Proofs.YthfcimmcccocmaaGreatDoor
set_option maxRecDepth 100000
set_option linter.unusedVariables false
def ZA5(a b c:Int)(xs:List Int):AFrame:={ fn:=5,N:=13,env:=[(0,AV.agg (Row.gen [AV.int .i64 a,AV.int .i64 b,AV.int .i64 c,AV.list (.ints .i64 xs)]))],todo:=[.code a5.code],defs:=[],rnd:=none,ret:=false,res:=[ARes.tmp 2] }
def g5e(a b c:Int)(xs:List Int):List AFrame:=[(ZA5 a b c xs)]
theorem Zv3(a b c:Int)(xs:List Int):Zap tab 5 [AV.agg (Row.gen [AV.int .i64 a,AV.int .i64 b,AV.int .i64 c,AV.list (.ints .i64 xs)])]=some (ZA5 a b c xs):=rfl
def ZBq(A:Ar)(K:KT)(F:FT)(a b c:Int)(xs:List Int):Prop:=rB [decide (nsG ([a,b,c]++xs)=true∧0<List.length [a,b,c]),List.all [AV.int .i64 a,AV.int .i64 b,AV.int .i64 c] fun x=>AV.bx x&&Nat.beq (Zag A x) 1] (F (AV.str (Zar (a::List.append [b,c] xs))) (none))
theorem ZCn{A:Ar}{K:KT}{F:FT}{M:MT}{a b c:Int}{xs:List Int} :Zat A tab N6 5 K F M (.run 21 (.fn)) (g5e a b c xs) []=ZBq A K F a b c xs:=by kernel_rfl
def ZBr(a b:Int)(xs:List Int):AFrame:={ fn:=7,N:=11,env:=[(0,AV.agg (Row.gen [AV.int .i64 a,AV.int .i64 b,AV.list (.ints .i64 xs)]))],todo:=[.code a7.code],defs:=[],rnd:=none,ret:=false,res:=[ARes.tmp 2] }
def g7e(a b:Int)(xs:List Int):List AFrame:=[(ZBr a b xs)]
theorem Zvc(a b:Int)(xs:List Int):Zap tab 7 [AV.agg (Row.gen [AV.int .i64 a,AV.int .i64 b,AV.list (.ints .i64 xs)])]=some (ZBr a b xs):=rfl
def ZBo(A:Ar)(K:KT)(F:FT)(a b:Int)(xs:List Int):Prop:=rB [decide (nsG ([a,b]++xs)=true∧0<List.length [a,b]),List.all [AV.int .i64 a,AV.int .i64 b] fun x=>AV.bx x&&Nat.beq (Zag A x) 1] (F (AV.str (Zar (a::List.append [b] xs))) (none))
theorem ZCf{A:Ar}{K:KT}{F:FT}{M:MT}{a b:Int}{xs:List Int} :Zat A tab N6 7 K F M (.run 19 (.fn)) (g7e a b xs) []=ZBo A K F a b xs:=by kernel_rfl
def Zxr(a b c:Int)(xs:List Int):AFrame:={ fn:=13,N:=14,env:=[(0,AV.agg (Row.gen [AV.int .i64 a,AV.int .i64 b,AV.int .i64 c,AV.list (.ints .i64 xs)]))],todo:=[.code a13.code],defs:=[],rnd:=none,ret:=false,res:=[ARes.tmp 2] }
def ZCs(a b c:Int)(xs:List Int):List AFrame:=[(Zxr a b c xs)]
theorem Zsn(a b c:Int)(xs:List Int):Zap tab 13 [AV.agg (Row.gen [AV.int .i64 a,AV.int .i64 b,AV.int .i64 c,AV.list (.ints .i64 xs)])]=some (Zxr a b c xs):=rfl
def Zxw(A:Ar)(K:KT)(F:FT)(a b c:Int)(xs:List Int):Prop:=rB [decide (nsG (A.app [a,b,c] xs)=true),Nat.ble (A.len [a,b,c]+A.len xs) 4294967296,List.all [AV.int .i64 a,AV.int .i64 b,AV.int .i64 c] fun x=>AV.bx x&&Nat.beq (Zag A x) 1] (F (AV.str (Zar (A.app [a,b,c] xs))) (none))
theorem Zzf{A:Ar}{K:KT}{F:FT}{M:MT}{a b c:Int}{xs:List Int} :Zat A tab N6 13 K F M (.run 22 (.fn)) (ZCs a b c xs) []=Zxw A K F a b c xs:=by kernel_rfl
def ZxY(a b:Int)(xs:List Int):AFrame:={ fn:=14,N:=12,env:=[(0,AV.agg (Row.gen [AV.int .i64 a,AV.int .i64 b,AV.list (.ints .i64 xs)]))],todo:=[.code a14.code],defs:=[],rnd:=none,ret:=false,res:=[ARes.tmp 2] }
def ZCT(a b:Int)(xs:List Int):List AFrame:=[(ZxY a b xs)]
theorem Zte(a b:Int)(xs:List Int):Zap tab 14 [AV.agg (Row.gen [AV.int .i64 a,AV.int .i64 b,AV.list (.ints .i64 xs)])]=some (ZxY a b xs):=rfl
def ZxQ(A:Ar)(K:KT)(F:FT)(a b:Int)(xs:List Int):Prop:=rB [decide (nsG (A.app [a,b] xs)=true),Nat.ble (A.len [a,b]+A.len xs) 4294967296,List.all [AV.int .i64 a,AV.int .i64 b] fun x=>AV.bx x&&Nat.beq (Zag A x) 1] (F (AV.str (Zar (A.app [a,b] xs))) (none))
theorem ZAy{A:Ar}{K:KT}{F:FT}{M:MT}{a b:Int}{xs:List Int} :Zat A tab N6 14 K F M (.run 20 (.fn)) (ZCT a b xs) []=ZxQ A K F a b xs:=by kernel_rfl
def Zxb(a b:Int)(xs:List Int):AFrame:={ fn:=36,N:=22,env:=[(0,AV.agg (Row.gen [AV.int .i64 a,AV.int .i64 b,AV.list (.ints .i64 xs)]))],todo:=[.code a36.code],defs:=[],rnd:=none,ret:=false,res:=[ARes.tmp 2] }
def ZCN(a b:Int)(xs:List Int):List AFrame:=[(Zxb a b xs)]
theorem ZtZ(a b:Int)(xs:List Int):Zap tab 36 [AV.agg (Row.gen [AV.int .i64 a,AV.int .i64 b,AV.list (.ints .i64 xs)])]=some (Zxb a b xs):=rfl
def ZvB(A:Ar)(K:KT)(F:FT)(a b:Int)(xs:List Int):Prop:=qB [decide (List.length [ZaL (Zan b 0 255) 2,ZaL (A.le (A.int (A.len xs)) 40) 8,ZaQ xs]≤1000000),List.all [AV.int .i64 (ZaL (Zan b 0 255) 2),AV.int .i64 (ZaL (A.le (A.int (A.len xs)) 40) 8),AV.int .i64 (ZaQ xs)] fun x=>AV.bx x&&Nat.beq (Zag A x) 1,decide (List.length xs≤1000000),Zan a 0 255] (F (AV.int .i64 (ZbJ [ZaL (Zan b 0 255) 2,ZaL (A.le (A.int (A.len xs)) 40) 8,ZaQ xs])) (none)) (rB [decide (List.length [2,ZaL (A.le (A.int (A.len xs)) 40) 8,ZaQ xs]≤1000000),List.all [AV.int .i64 2,AV.int .i64 (ZaL (A.le (A.int (A.len xs)) 40) 8),AV.int .i64 (ZaQ xs)] fun x=>AV.bx x&&Nat.beq (Zag A x) 1,decide (List.length xs≤1000000),!Zan a 0 255] (F (AV.int .i64 (ZbJ [2,ZaL (A.le (A.int (A.len xs)) 40) 8,ZaQ xs])) (none)))
theorem Zzw{A:Ar}{K:KT}{F:FT}{M:MT}{a b:Int}{xs:List Int} :Zat A tab N6 36 K F M (.run 6 (.tf (.run 2 (.fn)) (.run 2 (.fn)))) (ZCN a b xs) []=ZvB A K F a b xs:=by kernel_rfl
end Go.Proofs.YthfcimmcccocmaaGreatDoor
/- Contracts as a list. No condition. -/
namespace Go.Proofs.YthfcimmcccocmaaGreatDoor
theorem ZsL(a b c:Int)(xs:List Int)(h:nsG ([a,b,c]++xs)=true):Zae Tryz.prog 5 [.agg (.gen [.int .i64 a, .int .i64 b, .int .i64 c, .list (.ints .i64 xs)])] (.str (Zar ([a,b,c]++xs))) none:=
 start (Zv3 a b c xs) fun C hC=>tgo hC ZmH ZCn (by
  have h':nsG (a::b::c::xs)=true:=h
  have e:a::List.append [b,c] xs=[a,b,c]++xs:=rfl
  simp only[ZBq,e]
  simp[h',AV.bx,Zag])
theorem ZtN(a b:Int)(xs:List Int)(h:nsG ([a,b]++xs)=true):Zae Tryz.prog 7 [.agg (.gen [.int .i64 a, .int .i64 b, .list (.ints .i64 xs)])] (.str (Zar ([a,b]++xs))) none:=
 start (Zvc a b xs) fun C hC=>tgo hC ZmH ZCf (by
  have h':nsG (a::b::xs)=true:=h
  have e:a::List.append [b] xs=[a,b]++xs:=rfl
  simp only[ZBo,e]
  simp[h',AV.bx,Zag])
theorem Zpd(a b c:Int)(xs:List Int)(h:nsG ([a,b,c]++xs)=true):Zae Tryz.prog 13 [.agg (.gen [.int .i64 a, .int .i64 b, .int .i64 c, .list (.ints .i64 xs)])] (.str (Zar ([a,b,c]++xs))) none:=
 start (Zsn a b c xs) fun C hC=>tgo hC ZmH Zzf (by
  have h':nsG (a::b::c::xs)=true:=h
  have hl:=(nsG_iff.1 h).1
  simp only[List.length_append,List.length_cons,List.length_nil]at hl
  simp only[Zxw]
  simp[h',AV.bx,Zag]
  omega)
theorem Zpb(a b:Int)(xs:List Int)(h:nsG ([a,b]++xs)=true):Zae Tryz.prog 14 [.agg (.gen [.int .i64 a, .int .i64 b, .list (.ints .i64 xs)])] (.str (Zar ([a,b]++xs))) none:=
 start (Zte a b xs) fun C hC=>tgo hC ZmH ZAy (by
  have h':nsG (a::b::xs)=true:=h
  have hl:=(nsG_iff.1 h).1
  simp only[List.length_append,List.length_cons,List.length_nil]at hl
  simp only[ZxQ]
  simp[h',AV.bx,Zag]
  omega)
theorem Zou(a b:Int)(xs:List Int)(h:xs.length≤1000000):Zae Tryz.prog 36 [.agg (.gen [.int .i64 a, .int .i64 b, .list (.ints .i64 xs)])] (.int .i64 (pkE a b xs)) none:=
 start (ZtZ a b xs) fun C hC=>tgo hC ZmH Zzw (by
  by_cases h1:Zan a 0 255=true<;>by_cases h2:Zan b 0 255=true<;>by_cases h3:xs.length≤40<;>simp[ZvB,h,h1,h2,h3,pkE,ZbJ,ZaL,AV.bx,Zag,show((xs.length:Int)≤40)↔xs.length≤40 by omega]<;>exact fun h=>h.symm)
def k5:Ctr:=⟨5,0,fun _ a=>match a with |[.agg (.gen [.int .i64 a, .int .i64 b, .int .i64 c, .list (.ints .i64 xs)])]=>some (decide (nsG ([a,b,c]++xs)=true), .str (Zar ([a,b,c]++xs)),none) |_=>none⟩
theorem ZAY:k5.OK Tryz.prog:=fun pa args r fr h=>by
 simp only[k5]at h
 split at h
 ·simp only[Option.some.injEq,Prod.mk.injEq,decide_eq_true_eq]at h
  obtain⟨h0,rfl,rfl⟩:=h
  exact ZsL _ _ _ _ h0
 ·cases h
def k7:Ctr:=⟨7,0,fun _ a=>match a with |[.agg (.gen [.int .i64 a, .int .i64 b, .list (.ints .i64 xs)])]=>some (decide (nsG ([a,b]++xs)=true), .str (Zar ([a,b]++xs)),none) |_=>none⟩
theorem ZzP:k7.OK Tryz.prog:=fun pa args r fr h=>by
 simp only[k7]at h
 split at h
 ·simp only[Option.some.injEq,Prod.mk.injEq,decide_eq_true_eq]at h
  obtain⟨h0,rfl,rfl⟩:=h
  exact ZtN _ _ _ h0
 ·cases h
def k13:Ctr:=⟨13,0,fun _ a=>match a with |[.agg (.gen [.int .i64 a, .int .i64 b, .int .i64 c, .list (.ints .i64 xs)])]=>some (decide (nsG ([a,b,c]++xs)=true), .str (Zar ([a,b,c]++xs)),none) |_=>none⟩
theorem Zx1:k13.OK Tryz.prog:=fun pa args r fr h=>by
 simp only[k13]at h
 split at h
 ·simp only[Option.some.injEq,Prod.mk.injEq,decide_eq_true_eq]at h
  obtain⟨h0,rfl,rfl⟩:=h
  exact Zpd _ _ _ _ h0
 ·cases h
def k14:Ctr:=⟨14,0,fun _ a=>match a with |[.agg (.gen [.int .i64 a, .int .i64 b, .list (.ints .i64 xs)])]=>some (decide (nsG ([a,b]++xs)=true), .str (Zar ([a,b]++xs)),none) |_=>none⟩
theorem Zvd:k14.OK Tryz.prog:=fun pa args r fr h=>by
 simp only[k14]at h
 split at h
 ·simp only[Option.some.injEq,Prod.mk.injEq,decide_eq_true_eq]at h
  obtain⟨h0,rfl,rfl⟩:=h
  exact Zpb _ _ _ h0
 ·cases h
def k36:Ctr:=⟨36,0,fun _ a=>match a with |[.agg (.gen [.int .i64 a, .int .i64 b, .list (.ints .i64 xs)])]=>some (decide (xs.length≤1000000), .int .i64 (pkE a b xs),none) |_=>none⟩
theorem Zvh:k36.OK Tryz.prog:=fun pa args r fr h=>by
 simp only[k36]at h
 split at h
 ·simp only[Option.some.injEq,Prod.mk.injEq,decide_eq_true_eq]at h
  obtain⟨h0,rfl,rfl⟩:=h
  exact Zou _ _ _ h0
 ·cases h
def N7:List Ctr:=[k5,k7,k13,k14,k36]++N6
theorem Zov:ZaK Tryz.prog N7:=⟨ZAY,⟨ZzP,⟨Zx1,⟨Zvd,⟨Zvh,ZmH⟩⟩⟩⟩⟩
end Go.Proofs.YthfcimmcccocmaaGreatDoor
/- Paths of functions, printed by the explorer (Gx). No condition. -/
namespace Go.Proofs.YthfcimmcccocmaaGreatDoor
set_option maxRecDepth 100000
set_option linter.unusedVariables false
def ZBz(s:List UInt8):AFrame:={ fn:=9,N:=44,env:=[(0,AV.str s)],todo:=[.code a9.code],defs:=[],rnd:=none,ret:=false,res:=[ARes.cell 2 true 4,ARes.tmp 3] }
def g9e(s:List UInt8):List AFrame:=[(ZBz s)]
theorem Zu6(s:List UInt8):Zap tab 9 [AV.str s]=some (ZBz s):=rfl
def Zx9(A:Ar)(K:KT)(F:FT)(s:List UInt8):Prop:=rB [decide (List.length s<1000000)] (bB (A.not (rdB s 3)) (F (AV.tup [AV.agg (Row.gen [.int .i64 0, .int .i64 0, .int .i64 0,AV.nils]),AV.int .i64 7]) (none)) (rB [decide (List.length [ZaL (A.le (A.int (A.len (A.sub3 (rdL s) (A.nat 3) (A.len (rdL s)-A.nat 3)))) 24) 8,ZaQ (A.sub3 (rdL s) (A.nat 3) (A.len (rdL s)-A.nat 3))]≤1000000),List.all [AV.int .i64 (ZaL (A.le (A.int (A.len (A.sub3 (rdL s) (A.nat 3) (A.len (rdL s)-A.nat 3)))) 24) 8),AV.int .i64 (ZaQ (A.sub3 (rdL s) (A.nat 3) (A.len (rdL s)-A.nat 3)))] fun x=>AV.bx x&&Nat.beq (Zag A x) 1,decide (List.length (A.sub3 (rdL s) (A.nat 3) (A.len (rdL s)-A.nat 3))≤1000000),Zah (Zah (A.le 0 3) true) (Zah (Zah (Nat.ble (A.nat 3) (A.len (rdL s))) (Nat.ble (A.len (rdL s)) (A.len (rdL s)))) true),Nat.blt 2 (A.len (A.sub3 (A.sub3 (rdL s) 0 3) 0 3)),Nat.blt 1 (A.len (A.sub3 (A.sub3 (rdL s) 0 3) 0 3)),Nat.blt 0 (A.len (A.sub3 (A.sub3 (rdL s) 0 3) 0 3)),Nat.beq (A.len (A.sub3 (A.sub3 (rdL s) 0 3) 0 3)) 3,Nat.blt 0 (A.len [0,0,0]),Nat.ble 3 (A.len (A.sub3 (rdL s) 0 3)),Zah (Nat.ble 3 (A.len (rdL s))) true] (bB (A.not (A.eq (ZbJ [ZaL (A.le (A.int (A.len (A.sub3 (rdL s) (A.nat 3) (A.len (rdL s)-A.nat 3)))) 24) 8,ZaQ (A.sub3 (rdL s) (A.nat 3) (A.len (rdL s)-A.nat 3))]) 0)) (F (AV.tup [AV.agg (Row.gen [.int .i64 0, .int .i64 0, .int .i64 0,AV.nils]),AV.int .i64 (ZbJ [ZaL (A.le (A.int (A.len (A.sub3 (rdL s) (A.nat 3) (A.len (rdL s)-A.nat 3)))) 24) 8,ZaQ (A.sub3 (rdL s) (A.nat 3) (A.len (rdL s)-A.nat 3))])]) (none)) (F (AV.tup [AV.agg (Row.gen [.int .i64 (A.nth (A.sub3 (A.sub3 (rdL s) 0 3) 0 3) 0), .int .i64 (A.nth (A.sub3 (A.sub3 (rdL s) 0 3) 0 3) 1), .int .i64 (A.nth (A.sub3 (A.sub3 (rdL s) 0 3) 0 3) 2), .list (.ints .i64 (A.sub3 (rdL s) (A.nat 3) (A.len (rdL s)-A.nat 3)))]),AV.int .i64 0]) (none)))))
theorem ZCe{A:Ar}{K:KT}{F:FT}{M:MT}{s:List UInt8} :Zat A tab N7 9 K F M (.run 21 (.tf (.run 7 (.fn)) (.run 21 (.tf (.run 8 (.fn)) (.run 8 (.fn)))))) (g9e s) []=Zx9 A K F s:=by kernel_rfl
def Zwo(s:List UInt8):AFrame:={ fn:=10,N:=32,env:=[(0,AV.str s)],todo:=[.code a10.code],defs:=[],rnd:=none,ret:=false,res:=[ARes.cell 2 true 3,ARes.tmp 3] }
def ZBP(s:List UInt8):List AFrame:=[(Zwo s)]
theorem Zsi(s:List UInt8):Zap tab 10 [AV.str s]=some (Zwo s):=rfl
def ZpJ(A:Ar)(K:KT)(F:FT)(s:List UInt8):Prop:=rB [decide (List.length s<1000000)] (bB (A.not (rdB s 2)) (F (AV.tup [AV.agg (Row.gen [.int .i64 0, .int .i64 0,AV.nils]),AV.int .i64 7]) (none)) (rB [decide (List.length (A.sub3 (rdL s) (A.nat 2) (A.len (rdL s)-A.nat 2))≤1000000),Zah (Zah (A.le 0 2) true) (Zah (Zah (Nat.ble (A.nat 2) (A.len (rdL s))) (Nat.ble (A.len (rdL s)) (A.len (rdL s)))) true),Zah (Zah (A.le 0 1) (Nat.blt (A.nat 1) (A.len (rdL s)))) true,Zah (Zah (A.le 0 0) (Nat.blt (A.nat 0) (A.len (rdL s)))) true] (bB (A.not (A.eq (pkE (A.nth (rdL s) (A.nat 0)) (A.nth (rdL s) (A.nat 1)) (A.sub3 (rdL s) (A.nat 2) (A.len (rdL s)-A.nat 2))) 0)) (F (AV.tup [AV.agg (Row.gen [.int .i64 0, .int .i64 0,AV.nils]),AV.int .i64 (pkE (A.nth (rdL s) (A.nat 0)) (A.nth (rdL s) (A.nat 1)) (A.sub3 (rdL s) (A.nat 2) (A.len (rdL s)-A.nat 2)))]) (none)) (F (AV.tup [AV.agg (Row.gen [.int .i64 (A.nth (rdL s) (A.nat 0)), .int .i64 (A.nth (rdL s) (A.nat 1)), .list (.ints .i64 (A.sub3 (rdL s) (A.nat 2) (A.len (rdL s)-A.nat 2)))]),AV.int .i64 0]) (none)))))
theorem ZAr{A:Ar}{K:KT}{F:FT}{M:MT}{s:List UInt8} :Zat A tab N7 10 K F M (.run 21 (.tf (.run 7 (.fn)) (.run 16 (.tf (.run 8 (.fn)) (.run 8 (.fn)))))) (ZBP s) []=ZpJ A K F s:=by kernel_rfl
def ZwT(s:List UInt8):AFrame:={ fn:=11,N:=40,env:=[(0,AV.str s)],todo:=[.code a11.code],defs:=[],rnd:=none,ret:=false,res:=[ARes.cell 2 true 4,ARes.tmp 3] }
def ZBM(s:List UInt8):List AFrame:=[(ZwT s)]
theorem Zsa(s:List UInt8):Zap tab 11 [AV.str s]=some (ZwT s):=rfl
def ZnL(A:Ar)(K:KT)(F:FT)(s:List UInt8):Prop:=rB [decide (List.length s<1000000)] (bB (A.not (rdB s 3)) (F (AV.tup [AV.agg (Row.gen [.int .i64 0, .int .i64 0, .int .i64 0,AV.nils]),AV.int .i64 7]) (none)) (rB [A.inR .i64 (A.sub (A.int (A.len (rdL s))) 3)] (bB (A.lt 24 (A.sub (A.int (A.len (rdL s))) 3)) (F (AV.tup [AV.agg (Row.gen [.int .i64 0, .int .i64 0, .int .i64 0,AV.nils]),AV.int .i64 8]) (none)) (rB [decide (List.length (A.sub3 (rdL s) (A.nat 3) (A.len (rdL s)-A.nat 3))≤1000000),Zah (Zah (A.le 0 3) true) (Zah (Zah (Nat.ble (A.nat 3) (A.len (rdL s))) (Nat.ble (A.len (rdL s)) (A.len (rdL s)))) true)] (bB (A.not (A.eq (ZaQ (A.sub3 (rdL s) (A.nat 3) (A.len (rdL s)-A.nat 3))) 0)) (F (AV.tup [AV.agg (Row.gen [.int .i64 0, .int .i64 0, .int .i64 0,AV.nils]),AV.int .i64 (ZaQ (A.sub3 (rdL s) (A.nat 3) (A.len (rdL s)-A.nat 3)))]) (none)) (rB [decide (List.length (A.sub3 (rdL s) (A.nat 3) (A.len (rdL s)-A.nat 3))≤1000000),Zah (Zah (A.le 0 3) true) (Zah (Zah (Nat.ble (A.nat 3) (A.len (rdL s))) (Nat.ble (A.len (rdL s)) (A.len (rdL s)))) true),Zah (Zah (A.le 0 2) (Nat.blt (A.nat 2) (A.len (rdL s)))) true,Zah (Zah (A.le 0 1) (Nat.blt (A.nat 1) (A.len (rdL s)))) true,Zah (Zah (A.le 0 0) (Nat.blt (A.nat 0) (A.len (rdL s)))) true] (F (AV.tup [AV.agg (Row.gen [.int .i64 (A.nth (rdL s) (A.nat 0)), .int .i64 (A.nth (rdL s) (A.nat 1)), .int .i64 (A.nth (rdL s) (A.nat 2)), .list (.ints .i64 (A.sub3 (rdL s) (A.nat 3) (A.len (rdL s)-A.nat 3)))]),AV.int .i64 0]) (none))))))))
theorem ZAV{A:Ar}{K:KT}{F:FT}{M:MT}{s:List UInt8} :Zat A tab N7 11 K F M (.run 21 (.tf (.run 7 (.fn)) (.run 9 (.tf (.run 7 (.fn)) (.run 14 (.tf (.run 8 (.fn)) (.run 5 (.fn)))))))) (ZBM s) []=ZnL A K F s:=by kernel_rfl
def ZvU(s:List UInt8):AFrame:={ fn:=12,N:=33,env:=[(0,AV.str s)],todo:=[.code a12.code],defs:=[],rnd:=none,ret:=false,res:=[ARes.cell 2 true 3,ARes.tmp 3] }
def ZCJ(s:List UInt8):List AFrame:=[(ZvU s)]
theorem ZsZ(s:List UInt8):Zap tab 12 [AV.str s]=some (ZvU s):=rfl
def Zpz(A:Ar)(K:KT)(F:FT)(s:List UInt8):Prop:=rB [decide (List.length s<1000000)] (bB (A.not (rdB s 2)) (F (AV.tup [AV.agg (Row.gen [.int .i64 0, .int .i64 0,AV.nils]),AV.int .i64 7]) (none)) (rB [decide (List.length (A.sub3 (rdL s) (A.nat 2) (A.len (rdL s)-A.nat 2))≤1000000),decide (List.length (A.sub3 (rdL s) (A.nat 2) (A.len (rdL s)-A.nat 2))≤1000000),Zah (Zah (A.le 0 2) true) (Zah (Zah (Nat.ble (A.nat 2) (A.len (rdL s))) (Nat.ble (A.len (rdL s)) (A.len (rdL s)))) true),Zah (Zah (A.le 0 1) (Nat.blt (A.nat 1) (A.len (rdL s)))) true,Zah (Zah (A.le 0 0) (Nat.blt (A.nat 0) (A.len (rdL s)))) true] (bB (A.not (A.eq (pkE (A.nth (rdL s) (A.nat 0)) (A.nth (rdL s) (A.nat 1)) (A.sub3 (rdL s) (A.nat 2) (A.len (rdL s)-A.nat 2))) 0)) (F (AV.tup [AV.agg (Row.gen [.int .i64 0, .int .i64 0,AV.nils]),AV.int .i64 (pkE (A.nth (rdL s) (A.nat 0)) (A.nth (rdL s) (A.nat 1)) (A.sub3 (rdL s) (A.nat 2) (A.len (rdL s)-A.nat 2)))]) (none)) (F (AV.tup [AV.agg (Row.gen [.int .i64 (A.nth (rdL s) (A.nat 0)), .int .i64 (A.nth (rdL s) (A.nat 1)), .list (.ints .i64 (A.sub3 (rdL s) (A.nat 2) (A.len (rdL s)-A.nat 2)))]),AV.int .i64 0]) (none)))))
theorem ZzM{A:Ar}{K:KT}{F:FT}{M:MT}{s:List UInt8} :Zat A tab N7 12 K F M (.run 21 (.tf (.run 7 (.fn)) (.run 16 (.tf (.run 8 (.fn)) (.run 8 (.fn)))))) (ZCJ s) []=Zpz A K F s:=by kernel_rfl
end Go.Proofs.YthfcimmcccocmaaGreatDoor
