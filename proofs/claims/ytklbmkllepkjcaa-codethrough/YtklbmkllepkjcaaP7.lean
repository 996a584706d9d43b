/- Contracts as a list. No condition. -/
import Derived.Test.YtklbmkllepkjcaaSq
import Derived.KernelRfl
namespace Go.Proofs.Ytklbmkllepkjcaa
theorem Zn2{m p q:Int}{so:List Int}{t:Nat}(h:t≤Zac so):(rw2 (Zac so) (gB m p q so 0 (dpP m p q so (Zac so)))).getD (t+1) []=wR (dpP m p q so (Zac so-t)):=by
 rw[ZpO _ h,gB]
 by_cases h0:0<t
 ·rw[if_pos h0]
 ·rw[if_neg h0,if_pos (by omega),show t=0 by omega];rfl
def Zmf(m p q:Int)(so:List Int)(t st:Nat)(b:Int):Prop:=(dpP m p q so (Zac so-t-1)).getD (nxS m st b).toNat 0+gnI m p q so t st b=(dpP m p q so (Zac so-t)).getD st 0
section
variable {C:Ctx}(hC:C.P=Try.prog)(m p q:Int)(so:List Int)(h:OkC m p q so)
include hC h
theorem Z1(t s st:Nat)(ht:t<Zb4 m so)(hs:s<stS m)(hst:st<stS m)(l:List Int)(b8 b9:Bool)(j j2:Nat)(b:Int)(hb:b=0∨b=1)(hne:s=st→¬Zmf m p q so t st b)(r:AV)(fr:Option Fresh)
 (hn:Ev C (Zcs m p q so (reT (Zac so)) (rw2 (Zac so) (gB m p q so 0 (dpP m p q so (Zac so)))) (ZdO m so) j t st l (stN m) b8 b9 j2 s (b+1)) (ZbV m p q so (reT (Zac so)) (rw2 (Zac so) (gB m p q so 0 (dpP m p q so (Zac so)))) (ZdO m so) j t st l (stN m) b8 b9 j2 s (b+1)) (ZaI 65 r fr)):
 Ev C (Zcs m p q so (reT (Zac so)) (rw2 (Zac so) (gB m p q so 0 (dpP m p q so (Zac so)))) (ZdO m so) j t st l (stN m) b8 b9 j2 s b) (ZbV m p q so (reT (Zac so)) (rw2 (Zac so) (gB m p q so 0 (dpP m p q so (Zac so)))) (ZdO m so) j t st l (stN m) b8 b9 j2 s b) (ZaI 65 r fr):=by
 obtain⟨hg,_,hl2,hl3⟩:=h.soft
 have hlen:2*Zac so≤so.length:=by unfold Zac;omega
 have hm:=(Zap h.cv).1
 have hbb:Zb4 m so≤Zac so:=by unfold Zb4 Zac;omega
 have hT:Zac so≤303:=by unfold Zac;omega
 have e1:(reT (Zac so)).getD t 0=t+1:=Zew (by omega)
 have e2:(reT (Zac so)).getD (t+1) 0=t+2:=Zew (by omega)
 have e3:(rw2 (Zac so) (gB m p q so 0 (dpP m p q so (Zac so)))).getD (t+2) []=wR (dpP m p q so (Zac so-t-1)):=Zn2 (t:=t+1) (by omega)
 have e4:(rw2 (Zac so) (gB m p q so 0 (dpP m p q so (Zac so)))).getD (t+1) []=wR (dpP m p q so (Zac so-t)):=Zn2 (by omega)
 have e5:=ZmV (Zac so) (gB m p q so 0 (dpP m p q so (Zac so)))
 have e7:=ZjO (Zac so)
 have hdl:=Zhl m p q so (Zac so-t-1)
 have hdl2:=Zhl m p q so (Zac so-t)
 obtain⟨s1,s2,s3⟩:=Zbt h hs hb
 have k1:(2*(t:Int)).toNat=2*t:=by omega
 have k2:(2*(t:Int)+1).toNat=2*t+1:=by omega
 have hco:=Zxz so t (Zd0 m p s b) (Zd0 m q s b)
 have hgl:=Zh5 (m:=m) (p:=p) (q:=q) hg t s b
 have a1:=Zez hg (2*t)
 have a2:=Zez hg (2*t+1)
 have hD:=Zd6 h (n:=Zac so-t-1) (by omega) s3
 have hX:=Zd6 h (n:=Zac so-t) (by omega) hst
 have hbt:t<Zb4 m so↔¬ZdO m so≤t:=by unfold Zb4 ZdO ZaG;omega
 have h108:Zxa m so=true:=decide_eq_true (by omega)
 have hb2:=hbt.1 ht
 unfold Zmf gnI at hne
 unfold gnI at hgl
 have f1:(wR (dpP m p q so (Zac so-t))).getD st 0=wN ((dpP m p q so (Zac so-t)).getD st 0):=Zkx _ (by omega)
 have f2:(wR (dpP m p q so (Zac so-t-1))).getD (nxS m s b).toNat 0=wN ((dpP m p q so (Zac so-t-1)).getD (nxS m s b).toNat 0):=Zkx _ (by omega)
 have f3:std.fadd .f32 (wN ((dpP m p q so (Zac so-t-1)).getD (nxS m s b).toNat 0)) (std.i2f .f32 (gaI so t (oS m p s b) (oS m q s b)))=some (wN ((dpP m p q so (Zac so-t-1)).getD (nxS m s b).toNat 0+gaI so t (oS m p s b) (oS m q s b))):=Zo3 (by omega) (by omega)
 have f4:=Znq (a:=(dpP m p q so (Zac so-t-1)).getD (nxS m s b).toNat 0+gaI so t (oS m p s b) (oS m q s b)) (b:=(dpP m p q so (Zac so-t)).getD st 0) (by omega) (by omega)
 have f6:=Ziq (dpP m p q so (Zac so-t))
 have f7:=Ziq (dpP m p q so (Zac so-t-1))
 have g1:t<Zac so:=by omega
 have g2:t<Zac so+1:=by omega
 have g3:(0:Int)≤(t:Int)+1:=by omega
 have g4: -9223372036854775808≤(t:Int)+1:=by omega
 have g5:(t:Int)+1≤9223372036854775807:=by omega
 have g6:∀x,asB true x=x:=fun x=>rfl
 refine tgo hC Zen Zgb ?_
 by_cases hq:s=st
 ·subst hq
  have f8:=hne rfl
  have f9:(compare ((dpP m p q so (Zac so-t-1)).getD (nxS m s b).toNat 0+gaI so t (oS m p s b) (oS m q s b)) ((dpP m p q so (Zac so-t)).getD s 0)==Ordering.eq)=false:=by
   rw[beq_eq_false_iff_ne];exact fun e=>f8 (Int.compare_eq_eq.1 e)
  rcases hb with rfl |rfl
  ·simp[-List.getD_eq_getElem?_getD,List.getD_cons_zero,List.getD_cons_succ,Zbj,e1,e2,e3,e4,e5,e7,s1,s2,s3,k1,k2,hco,hdl,hdl2,hs,h108,hb2,f1,f2,f3,f4,f6,f7,f9,g1,g2,g3,g4,g5,g6]at hn⊢
   exact⟨by omega,hn⟩
  ·simp[-List.getD_eq_getElem?_getD,List.getD_cons_zero,List.getD_cons_succ,Zbj,e1,e2,e3,e4,e5,e7,s1,s2,s3,k1,k2,hco,hdl,hdl2,hs,h108,hb2,f1,f2,f3,f4,f6,f7,f9,g1,g2,g3,g4,g5,g6]at hn⊢
   exact⟨by omega,hn⟩
 ·have hq':¬(s:Int)=st:=by omega
  rcases hb with rfl |rfl
  ·simp[-List.getD_eq_getElem?_getD,List.getD_cons_zero,List.getD_cons_succ,Zbj,e1,e2,e3,e4,e5,e7,s1,s2,s3,k1,k2,hco,hdl,hdl2,h108,hb2,f1,f2,f3,f4,f6,f7,hst,hq',g1,g2,g3,g4,g5]at hn⊢
   exact⟨by omega,hn⟩
  ·simp[-List.getD_eq_getElem?_getD,List.getD_cons_zero,List.getD_cons_succ,Zbj,e1,e2,e3,e4,e5,e7,s1,s2,s3,k1,k2,hco,hdl,hdl2,h108,hb2,f1,f2,f3,f4,f6,f7,hst,hq',g1,g2,g3,g4,g5]at hn⊢
   exact⟨by omega,hn⟩
theorem Z1e(t st:Nat)(ht:t<Zb4 m so)(hs:st<stS m)(l:List Int)(hl:l.length≤1000)(b8 b9:Bool)(j j2:Nat)(b:Int)(hb:b=0∨b=1)(he:Zmf m p q so t st b)(r:AV)(fr:Option Fresh)
 (hn:Ev C (Zca m p q so (reT (Zac so)) (rw2 (Zac so) (gB m p q so 0 (dpP m p q so (Zac so)))) (ZdO m so) j ((t+1:Nat):Int) j2 (nxS m st b) (l++[b])) (ZbI m p q so (reT (Zac so)) (rw2 (Zac so) (gB m p q so 0 (dpP m p q so (Zac so)))) (ZdO m so) j ((t+1:Nat):Int) j2 (nxS m st b) (l++[b])) (ZaI 65 r fr)):
 Ev C (Zcs m p q so (reT (Zac so)) (rw2 (Zac so) (gB m p q so 0 (dpP m p q so (Zac so)))) (ZdO m so) j t st l (stN m) b8 b9 j2 st b) (ZbV m p q so (reT (Zac so)) (rw2 (Zac so) (gB m p q so 0 (dpP m p q so (Zac so)))) (ZdO m so) j t st l (stN m) b8 b9 j2 st b) (ZaI 65 r fr):=by
 obtain⟨hg,_,hl2,hl3⟩:=h.soft
 have hlen:2*Zac so≤so.length:=by unfold Zac;omega
 have hm:=(Zap h.cv).1
 have hbb:Zb4 m so≤Zac so:=by unfold Zb4 Zac;omega
 have hT:Zac so≤303:=by unfold Zac;omega
 have e1:(reT (Zac so)).getD t 0=t+1:=Zew (by omega)
 have e2:(reT (Zac so)).getD (t+1) 0=t+2:=Zew (by omega)
 have e3:(rw2 (Zac so) (gB m p q so 0 (dpP m p q so (Zac so)))).getD (t+2) []=wR (dpP m p q so (Zac so-t-1)):=Zn2 (t:=t+1) (by omega)
 have e4:(rw2 (Zac so) (gB m p q so 0 (dpP m p q so (Zac so)))).getD (t+1) []=wR (dpP m p q so (Zac so-t)):=Zn2 (by omega)
 have e5:=ZmV (Zac so) (gB m p q so 0 (dpP m p q so (Zac so)))
 have e7:=ZjO (Zac so)
 have hdl:=Zhl m p q so (Zac so-t-1)
 have hdl2:=Zhl m p q so (Zac so-t)
 obtain⟨s1,s2,s3⟩:=Zbt h hs hb
 have k1:(2*(t:Int)).toNat=2*t:=by omega
 have k2:(2*(t:Int)+1).toNat=2*t+1:=by omega
 have hco:=Zxz so t (Zd0 m p st b) (Zd0 m q st b)
 have hgl:=Zh5 (m:=m) (p:=p) (q:=q) hg t st b
 have a1:=Zez hg (2*t)
 have a2:=Zez hg (2*t+1)
 have hD:=Zd6 h (n:=Zac so-t-1) (by omega) s3
 have hX:=Zd6 h (n:=Zac so-t) (by omega) hs
 have hbt:t<Zb4 m so↔¬ZdO m so≤t:=by unfold Zb4 ZdO ZaG;omega
 have h108:Zxa m so=true:=decide_eq_true (by omega)
 have hb2:=hbt.1 ht
 unfold Zmf gnI at he
 unfold gnI at hgl
 have f1:(wR (dpP m p q so (Zac so-t))).getD st 0=wN ((dpP m p q so (Zac so-t)).getD st 0):=Zkx _ (by omega)
 have f2:(wR (dpP m p q so (Zac so-t-1))).getD (nxS m st b).toNat 0=wN ((dpP m p q so (Zac so-t-1)).getD (nxS m st b).toNat 0):=Zkx _ (by omega)
 have f3:std.fadd .f32 (wN ((dpP m p q so (Zac so-t-1)).getD (nxS m st b).toNat 0)) (std.i2f .f32 (gaI so t (oS m p st b) (oS m q st b)))=some (wN ((dpP m p q so (Zac so-t)).getD st 0)):=by rw[←he];exact Zo3 (by omega) (by omega)
 have f4:=Znq (a:=(dpP m p q so (Zac so-t)).getD st 0) (b:=(dpP m p q so (Zac so-t)).getD st 0) (by omega) (by omega)
 have f6:=Ziq (dpP m p q so (Zac so-t))
 have f7:=Ziq (dpP m p q so (Zac so-t-1))
 have g1:t<Zac so:=by omega
 have g2:t<Zac so+1:=by omega
 have g3:(0:Int)≤(t:Int)+1:=by omega
 have g4: -9223372036854775808≤(t:Int)+1:=by omega
 have g5:(t:Int)+1≤9223372036854775807:=by omega
 have g6:∀x,asB true x=x:=fun x=>rfl
 refine tgo hC Zen Zgb ?_
 rcases hb with rfl |rfl
 ·simp[-List.getD_eq_getElem?_getD,List.getD_cons_zero,List.getD_cons_succ,Zbj,e1,e2,e3,e4,e5,e7,s1,s2,s3,k1,k2,hco,hdl,hdl2,hs,h108,hb2,f1,f2,f3,f4,f6,f7,g1,g2,g3,g4,g5,g6,AV.bx,Zag]at hn⊢
  exact⟨by omega,by omega,hn⟩
 ·simp[-List.getD_eq_getElem?_getD,List.getD_cons_zero,List.getD_cons_succ,Zbj,e1,e2,e3,e4,e5,e7,s1,s2,s3,k1,k2,hco,hdl,hdl2,hs,h108,hb2,f1,f2,f3,f4,f6,f7,g1,g2,g3,g4,g5,g6,AV.bx,Zag]at hn⊢
  exact⟨by omega,by omega,hn⟩
theorem Z0(t st:Nat)(ht:t<Zb4 m so)(hst:st<stS m)(l:List Int)(hl:l.length≤1000)(b8 b9:Bool)(j j2:Nat)(r:AV)(fr:Option Fresh)
 (hn0:Zmf m p q so t st 0→Ev C (Zca m p q so (reT (Zac so)) (rw2 (Zac so) (gB m p q so 0 (dpP m p q so (Zac so)))) (ZdO m so) j ((t+1:Nat):Int) j2 (nxS m st 0) (l++[0])) (ZbI m p q so (reT (Zac so)) (rw2 (Zac so) (gB m p q so 0 (dpP m p q so (Zac so)))) (ZdO m so) j ((t+1:Nat):Int) j2 (nxS m st 0) (l++[0])) (ZaI 65 r fr))
 (hn1:¬Zmf m p q so t st 0→Zmf m p q so t st 1→Ev C (Zca m p q so (reT (Zac so)) (rw2 (Zac so) (gB m p q so 0 (dpP m p q so (Zac so)))) (ZdO m so) j ((t+1:Nat):Int) j2 (nxS m st 1) (l++[1])) (ZbI m p q so (reT (Zac so)) (rw2 (Zac so) (gB m p q so 0 (dpP m p q so (Zac so)))) (ZdO m so) j ((t+1:Nat):Int) j2 (nxS m st 1) (l++[1])) (ZaI 65 r fr))
 (hn2:¬Zmf m p q so t st 0→¬Zmf m p q so t st 1→Ev C (Zca m p q so (reT (Zac so)) (rw2 (Zac so) (gB m p q so 0 (dpP m p q so (Zac so)))) (ZdO m so) j ((t+1:Nat):Int) j2 st l) (ZbI m p q so (reT (Zac so)) (rw2 (Zac so) (gB m p q so 0 (dpP m p q so (Zac so)))) (ZdO m so) j ((t+1:Nat):Int) j2 st l) (ZaI 65 r fr)):
 ∀k s:Nat,s+k=stS m→(s≤st∨¬Zmf m p q so t st 0∧¬Zmf m p q so t st 1)→
 Ev C (Zhu m p q so (reT (Zac so)) (rw2 (Zac so) (gB m p q so 0 (dpP m p q so (Zac so)))) (ZdO m so) j t st l (stN m) b8 b9 j2 s) (ZfL m p q so (reT (Zac so)) (rw2 (Zac so) (gB m p q so 0 (dpP m p q so (Zac so)))) (ZdO m so) j t st l (stN m) b8 b9 j2 s) (ZaI 65 r fr):=by
 have hm:=(Zap h.cv).1
 have h2:=Zbg hm
 obtain⟨hg,_,hl2,hl3⟩:=h.soft
 have hT:Zb4 m so≤303:=by unfold Zb4;omega
 intro k
 induction k with
 |zero=>
  intro s hs hq
  have e9:(s:Int)=stN m:=by omega
  obtain⟨q1,q2⟩:¬Zmf m p q so t st 0∧¬Zmf m p q so t st 1:=by
   rcases hq with hq |hq
   ·omega
   ·exact hq
  have i:=hn2 q1 q2
  refine tgo hC Zen Zj5 ?_
  simp[ZfR,e9]at i⊢
  exact⟨by omega,i⟩
 |succ k ih=>
  intro s hs hq
  have e9:(s:Int)<stN m:=by omega
  have hx:∀i:s+1≤st∨¬Zmf m p q so t st 0∧¬Zmf m p q so t st 1,Ev C (Zcs m p q so (reT (Zac so)) (rw2 (Zac so) (gB m p q so 0 (dpP m p q so (Zac so)))) (ZdO m so) j t st l (stN m) b8 b9 j2 s 2) (ZbV m p q so (reT (Zac so)) (rw2 (Zac so) (gB m p q so 0 (dpP m p q so (Zac so)))) (ZdO m so) j t st l (stN m) b8 b9 j2 s 2) (ZaI 65 r fr):=fun i=>by
   have ih':=ih (s+1) (by omega) i
   refine tgo hC Zen Zgb ?_
   simp[Zbj]at ih'⊢
   exact⟨by omega,ih'⟩
  refine tgo hC Zen Zj5 ?_
  simp only[ZfR,ZDx,ZBU,e9,decide_true,if_true]
  show Ev C _ _ _
  by_cases hs2:s=st
  ·subst hs2
   by_cases q0:Zmf m p q so t s 0
   ·exact Z1e hC m p q so h t s ht hst l hl _ _ _ _ 0 (Or.inl rfl) q0 _ _ (hn0 q0)
   ·refine Z1 hC m p q so h t s s ht hst hst l _ _ _ _ 0 (Or.inl rfl) (fun _=>q0) _ _ ?_
    by_cases q1:Zmf m p q so t s 1
    ·exact Z1e hC m p q so h t s ht hst l hl _ _ _ _ 1 (Or.inr rfl) q1 _ _ (hn1 q0 q1)
    ·exact Z1 hC m p q so h t s s ht hst hst l _ _ _ _ 1 (Or.inr rfl) (fun _=>q1) _ _ (hx (Or.inr ⟨q0,q1⟩))
  ·refine Z1 hC m p q so h t s st ht (by omega) hst l _ _ _ _ 0 (Or.inl rfl) (fun e=>absurd e hs2) _ _ ?_
   refine Z1 hC m p q so h t s st ht (by omega) hst l _ _ _ _ 1 (Or.inr rfl) (fun e=>absurd e hs2) _ _ (hx ?_)
   rcases hq with hq |hq
   ·exact Or.inl (by omega)
   ·exact Or.inr hq
theorem Z65:∀k t:Nat,t+k=Zb4 m so→∀(st:Nat) (l:List Int) (j j2:Nat),st<stS m→l.length+k≤1000→
 Ev C (Zca m p q so (reT (Zac so)) (rw2 (Zac so) (gB m p q so 0 (dpP m p q so (Zac so)))) (ZdO m so) j t j2 st l) (ZbI m p q so (reT (Zac so)) (rw2 (Zac so) (gB m p q so 0 (dpP m p q so (Zac so)))) (ZdO m so) j t j2 st l) (ZaI 65 (.tup [.row 0 0, .int .i64 ((dpP m p q so (Zac so)).getD 0 0)]) (some ⟨3,1, .ints .i64 (l++tbP m p q so k t st)⟩)):=by
 have hm:=(Zap h.cv).1
 have h2:=Zbg hm
 have hmm:Zpk m=true:=decide_eq_true (by omega)
 obtain⟨hg,_,hl2,hl3⟩:=h.soft
 have hT:Zb4 m so≤Zac so∧Zac so≤303:=by unfold Zb4 Zac;omega
 intro k
 induction k with
 |zero=>
  intro t ht st l j j2 hst hl
  have hbt:¬(t:Int)<ZdO m so:=by unfold Zb4 at ht;unfold ZdO ZaG;omega
  have e1:(reT (Zac so)).getD 0 0=1:=by rw[Zew (by omega)]
  have e3:(rw2 (Zac so) (gB m p q so 0 (dpP m p q so (Zac so)))).getD 1 []=wR (dpP m p q so (Zac so)):=Zn2 (t:=0) (by omega)
  have e5:=ZmV (Zac so) (gB m p q so 0 (dpP m p q so (Zac so)))
  have e7:=ZjO (Zac so)
  have hdl:=Zhl m p q so (Zac so)
  have hX:=Zd6 h (n:=Zac so) (by omega) (show 0<stS m by omega)
  have f1:(wR (dpP m p q so (Zac so))).getD 0 0=wN ((dpP m p q so (Zac so)).getD 0 0):=Zkx _ (by omega)
  have f2:=ZJh (n:=(dpP m p q so (Zac so)).getD 0 0) (by omega)
  have f6:=Ziq (dpP m p q so (Zac so))
  refine tgo hC Zen Zmj ?_
  simp[-List.getD_eq_getElem?_getD,Zib,hbt,e1,e3,e5,e7,hdl,f1,f2,f6,tbP]
  omega
 |succ k ih=>
  intro t ht st l j j2 hst hl
  have hbt:(t:Int)<ZdO m so:=by unfold Zb4 at ht;unfold ZdO ZaG;omega
  refine tgo hC Zen Zmj ?_
  have i:=Z0 hC m p q so h t st (by omega) hst l (by omega) true true j (j2+1) (.tup [.row 0 0, .int .i64 ((dpP m p q so (Zac so)).getD 0 0)]) (some ⟨3,1, .ints .i64 (l++tbP m p q so (k+1) t st)⟩) (fun q0=>by
   obtain⟨s1,s2,s3⟩:=Zbt h hst (b:=0) (Or.inl rfl)
   have:=ih (t+1) (by omega) (nxS m st 0).toNat (l++[0]) j (j2+1) s3 (by simp;omega)
   rw[Int.toNat_of_nonneg s2,List.append_assoc]at this
   unfold Zmf at q0
   rw[tbP,if_pos q0]
   exact this) (fun q0 q1=>by
   obtain⟨s1,s2,s3⟩:=Zbt h hst (b:=1) (Or.inr rfl)
   have:=ih (t+1) (by omega) (nxS m st 1).toNat (l++[1]) j (j2+1) s3 (by simp;omega)
   rw[Int.toNat_of_nonneg s2,List.append_assoc]at this
   unfold Zmf at q0 q1
   rw[tbP,if_neg q0,if_pos q1]
   exact this) (fun q0 q1=>by
   have:=ih (t+1) (by omega) st l j (j2+1) hst (by omega)
   unfold Zmf at q0 q1
   rw[tbP,if_neg q0,if_neg q1]
   exact this) (stS m) 0 (by omega) (Or.inl (Nat.zero_le _))
  simp[Zib,hbt,hmm]at i⊢
  exact i
end
theorem ZHX{m:Int} :wR (Zo0 m)=List.replicate (stN m).toNat 3351465984:=by
 unfold wR Zo0
 rw[List.map_replicate,←ZGA];rfl
section
variable {C:Ctx}(hC:C.P=Try.prog)(m p q:Int)(so:List Int)(h:OkC m p q so)
include hC h
theorem ZQb:∀k t:Nat,t+k=Zac so+1→
 Ev C (ZhJ m p q so ((Zac so+1:Nat):Int) (fT (Zac so) t) t ([]::List.replicate t (wR (Zo0 m)))) (ZfK m p q so ((Zac so+1:Nat):Int) (fT (Zac so) t) t ([]::List.replicate t (wR (Zo0 m)))) (ZaI 65 (.tup [.row 0 0, .int .i64 ((dpP m p q so (Zac so)).getD 0 0)]) (some ⟨3,1, .ints .i64 (tbP m p q so (Zb4 m so) 0 0)⟩)):=by
 have hm:=(Zap h.cv).1
 have h2:=Zbg hm
 have hmm:Zpk m=true:=decide_eq_true (by omega)
 have hst:ZDY (stN m)=true:=decide_eq_true (by unfold stN at h2 ⊢;omega)
 obtain⟨hg,_,hl2,hl3⟩:=h.soft
 have hT:Zac so≤303:=by unfold Zac;omega
 have hbT:Zb4 m so≤303:=by unfold Zb4;omega
 have hTT:ZaG so=(Zac so:Int):=rfl
 intro k
 induction k with
 |zero=>
  intro t ht
  refine tgo hC Zen ZjW ?_
  have i:=ZOB hC m p q so h _ _ (fun j=>Z65 hC m p q so h (Zb4 m so) 0 (by omega) 0 [] j 0 (by omega) (by simp;omega)) (Zac so) 0 (Nat.le_refl _)
  have e9:t=Zac so+1:=by omega
  subst e9
  have e1:(reT (Zac so)).getD (Zac so) 0=Zac so+1:=Zew (by omega)
  have e2:(([]:List Nat)::List.replicate (Zac so+1) (wR (Zo0 m))).getD (Zac so+1) []=wR (Zo0 m):=by rw[List.getD_cons_succ,List.getD_eq_getElem?_getD,List.getElem?_replicate,if_pos (by omega)];rfl
  have e0:dpP m p q so 0=(Zo0 m).set 0 0:=by
   apply List.ext_getElem?
   intro i
   unfold dpP Zo0
   rw[List.getElem?_set,List.getElem?_map,List.getElem?_replicate,List.length_replicate]
   by_cases hi:i<stS m
   ·rw[List.getElem?_range hi]
    by_cases h0:0=i
    ·subst h0;simp[hi]
    ·simp[hi,h0,show ¬i=0 by omega]
   ·rw[List.getElem?_eq_none (by simp;omega)];simp[hi,show ¬0=i by omega]
  have e3:(([]:List Nat)::List.replicate (Zac so+1) (wR (Zo0 m))).set (Zac so+1) ((wR (Zo0 m)).set 0 0)=rw2 (Zac so) (gB m p q so (Zac so) (dpP m p q so (Zac so-Zac so))):=by
   rw[Nat.sub_self,e0]
   unfold rw2
   rw[List.set_cons_succ]
   congr 1
   apply List.ext_getElem?
   intro i
   rw[List.getElem?_set,List.getElem?_map,List.getElem?_replicate,List.length_replicate]
   by_cases hi:i<Zac so+1
   ·rw[List.getElem?_range hi]
    by_cases h0:Zac so=i
    ·subst h0;simp[gB];rw[←ZuL,←ZCL]
    ·simp[h0,hi,gB,show ¬i=Zac so from fun e=>h0 e.symm,show ¬Zac so<i by omega]
   ·rw[List.getElem?_eq_none (by simp;omega)]
    simp[hi,show ¬Zac so=i by omega]
  have e4:(Zo0 m).length=stS m:=by simp[Zo0]
  have e4w:=Ziq (Zo0 m)
  have e5:=ZjO (Zac so)
  have e6:=ZGQ (Zac so)
  rw[←e3]at i
  simp[-List.getD_eq_getElem?_getD, -List.set_cons_succ,ZfU,e1,e2,e4,e4w,e5,e6,hTT]at i⊢
  refine⟨by omega,?_⟩
  exact i
 |succ k ih=>
  intro t ht
  refine tgo hC Zen ZjW ?_
  have i:=ih (t+1) (by omega)
  rw[←ZHn (by omega),List.replicate_succ',←List.cons_append]at i
  have e9:(t:Int)<(Zac so:Int)+1:=by omega
  have e9n:t<Zac so+1:=by omega
  have e5:=ZGq (Zac so) t
  have e6:=ZHX (m:=m)
  simp[ZfU,hmm,hst,e5,e9,e9n,AV.bx,Zag]at i⊢
  rw[←e6]
  exact⟨by omega,i⟩
end
theorem ZDq{m p q:Int}{so:List Int}(h:OkC m p q so):Zac so≤303∧so.length≤1000000:=by
 have hm:=(Zap h.cv).1
 obtain⟨hg,_,hl2,hl3⟩:=h.soft
 unfold Zac;omega
theorem ZuJ(m p q:Int)(so:List Int)(h:OkC m p q so):Zai Try.prog 65 [.agg (.gen [.int .i64 m, .int .i64 p, .int .i64 q, .list (.ints .i64 so)])] (.tup [.row 0 0, .int .i64 (bvI m p q so)]) (some ⟨3,1, .ints .i64 (blI m p q so)⟩):=by
 have hT:=ZDq h
 have hTT:ZaG so=(Zac so:Int):=rfl
 obtain⟨w1,w2⟩:=ZmC h
 have e2:((Zac so:Int)+1).toNat=Zac so+1:=by omega
 refine start (ZEG m p q so) fun C hC=>tgo hC Zen ZNz ?_
 have i:=ZQb hC m p q so h (Zac so+1) 0 (by omega)
 rw[w1,w2,ZDK]at i
 simp[ZG8,hTT,e2]at i⊢
 exact⟨by omega,i⟩
def k65:Ctr:=⟨65,0,fun _ a=>match a with |[.agg (.gen [.int .i64 m, .int .i64 p, .int .i64 q, .list (.ints .i64 so)])]=>some (decide (okI m p q so=true), .tup [.row 0 0, .int .i64 (bvI m p q so)],some ⟨3,1, .ints .i64 (blI m p q so)⟩) |_=>none⟩
theorem ZGm:k65.OK Try.prog:=fun pa args r fr h=>by
 simp only[k65]at h
 split at h
 ·simp only[Option.some.injEq,Prod.mk.injEq,decide_eq_true_eq]at h
  obtain⟨h0,rfl,rfl⟩:=h
  exact ZuJ _ _ _ _ (okI_iff.1 h0)
 ·cases h
def J7:List Ctr:=[k65]++N6
theorem ZKo:Zay Try.prog J7:=⟨ZGm,ZnY⟩
end Go.Proofs.Ytklbmkllepkjcaa
/- Paths of functions, printed by the explorer (Gx). No condition. -/
namespace Go.Proofs.Ytklbmkllepkjcaa
set_option maxRecDepth 100000
set_option linter.unusedVariables false
def ZKO(m g0 g1:Int)(xs:List Int):AFrame:={ fn:=13,N:=31,env:=[(0,AV.agg (Row.gen [.int .i64 m, .int .i64 g0, .int .i64 g1])),(1,AV.list (.ints .i64 xs))],todo:=[.code a13.code],defs:=[],rnd:=none,ret:=false,res:=[ARes.tmp 4,ARes.tmp 5,ARes.tmp 6] }
def ZOR(m g0 g1:Int)(xs:List Int):List AFrame:=[(ZKO m g0 g1 xs)]
theorem ZBJ(m g0 g1:Int)(xs:List Int):Zaq tab 13 [AV.agg (Row.gen [.int .i64 m, .int .i64 g0, .int .i64 g1]),AV.list (.ints .i64 xs)]=some (ZKO m g0 g1 xs):=rfl
def Zxt(A:Ar)(K:KT)(F:FT)(m g0 g1:Int)(xs:List Int):Prop:=bB (A.not (A.eq (ZaB m g0 g1) 0)) (F (AV.tup [AV.nils,AV.int .i64 0,AV.int .i64 (ZaB m g0 g1)]) (none)) (rB [decide (List.length xs≤1000000)] (bB (A.not (A.eq (sfW m xs) 0)) (F (AV.tup [AV.nils,AV.int .i64 0,AV.int .i64 (sfW m xs)]) (none)) (rB [decide (okI m g0 g1 xs=true)] (F (AV.tup [AV.row 0 0,AV.int .i64 (bvI m g0 g1 xs),AV.int .i64 0]) (some { e:=3,sz:=1,r:=.ints .i64 (blI m g0 g1 xs) })))))
theorem ZMb{A:Ar}{K:KT}{F:FT}{M:MT}{m g0 g1:Int}{xs:List Int} :Zaj A tab J7 13 K F M (.run 19 (.tf (.run 8 (.fn)) (.run 14 (.tf (.run 8 (.fn)) (.run 23 (.fn)))))) (ZOR m g0 g1 xs) []=Zxt A K F m g0 g1 xs:=by kernel_rfl
end Go.Proofs.Ytklbmkllepkjcaa
/- Calls at given values. Printed by facts.py. -/
namespace Go.Proofs.Ytklbmkllepkjcaa
set_option maxRecDepth 1000000
def aw0:Fact:=⟨58,[],(.agg (.gen [(.int .i64 2),(.int .i64 7),(.int .i64 5)])),none⟩
theorem ZGl:Zai Try.prog aw0.f aw0.args aw0.r aw0.fr:=Zab (n:=100000) (l:=[]) follows Zad trivial (by kernel_rfl)
def aw1:Fact:=⟨59,[],(.row 0 0),(some ⟨3,1,(.ints .i64 [(-1),(-1),1,1,(-1),(-1),1,1])⟩)⟩
theorem ZIg:Zai Try.prog aw1.f aw1.args aw1.r aw1.fr:=Zab (n:=100000) (l:=[]) follows Zad trivial (by kernel_rfl)
def aw2:Fact:=⟨91,[(.int .i64 2),(.int .i64 1),(.int .i64 3)],(.bool true),none⟩
theorem ZJN:Zai Try.prog aw2.f aw2.args aw2.r aw2.fr:=Zab (n:=100000) (l:=[]) follows Zad trivial (by kernel_rfl)
def aw3:Fact:=⟨91,[(.int .i64 7),(.int .i64 1),(.int .i64 7)],(.bool true),none⟩
theorem ZJ2:Zai Try.prog aw3.f aw3.args aw3.r aw3.fr:=Zab (n:=100000) (l:=[]) follows Zad trivial (by kernel_rfl)
def aw4:Fact:=⟨111,[(.int .i64 7),(.eptr (.int .i64 1) 0),(.eptr (.int .i64 7) 0)],(.bool false),none⟩
theorem ZKA:Zai Try.prog aw4.f aw4.args aw4.r aw4.fr:=Zab (n:=100000) (l:=[aw3]) follows Zad ⟨ZJ2,trivial⟩ (by kernel_rfl)
def aw5:Fact:=⟨91,[(.int .i64 5),(.int .i64 1),(.int .i64 7)],(.bool true),none⟩
theorem ZJL:Zai Try.prog aw5.f aw5.args aw5.r aw5.fr:=Zab (n:=100000) (l:=[]) follows Zad trivial (by kernel_rfl)
def aw6:Fact:=⟨111,[(.int .i64 5),(.eptr (.int .i64 1) 0),(.eptr (.int .i64 7) 0)],(.bool false),none⟩
theorem ZKv:Zai Try.prog aw6.f aw6.args aw6.r aw6.fr:=Zab (n:=100000) (l:=[aw5]) follows Zad ⟨ZJL,trivial⟩ (by kernel_rfl)
def aw7:Fact:=⟨123,[(.list (.ints .i64 [7,5])),(.fn 111 [(.eptr (.int .i64 1) 0),(.eptr (.int .i64 7) 0)])],(.int .i64 (-1)),none⟩
theorem ZHB:Zai Try.prog aw7.f aw7.args aw7.r aw7.fr:=Zab (n:=100000) (l:=[aw4,aw6]) follows Zad ⟨ZKA,⟨ZKv,trivial⟩⟩ (by kernel_rfl)
def aw8:Fact:=⟨110,[(.list (.ints .i64 [7,5])),(.fn 111 [(.eptr (.int .i64 1) 0),(.eptr (.int .i64 7) 0)])],(.bool false),none⟩
theorem ZH4:Zai Try.prog aw8.f aw8.args aw8.r aw8.fr:=Zab (n:=100000) (l:=[aw7]) follows Zad ⟨ZHB,trivial⟩ (by kernel_rfl)
def aw9:Fact:=⟨85,[(.bool true),(.int .i64 2)],(.int .i64 0),none⟩
theorem Zjt:Zai Try.prog aw9.f aw9.args aw9.r aw9.fr:=Zab (n:=100000) (l:=[]) follows Zad trivial (by kernel_rfl)
def aw10:Fact:=⟨70,[(.list (.ints .i64 [7,5])),(.int .i64 1),(.int .i64 7)],(.int .i64 0),none⟩
theorem ZCC:Zai Try.prog aw10.f aw10.args aw10.r aw10.fr:=Zab (n:=100000) (l:=[aw8,aw9]) follows Zad ⟨ZH4,⟨Zjt,trivial⟩⟩ (by kernel_rfl)
def aw11:Fact:=⟨63,[(.agg (.gen [(.int .i64 2),(.int .i64 7),(.int .i64 5)]))],(.int .i64 0),none⟩
theorem Zwa:Zai Try.prog aw11.f aw11.args aw11.r aw11.fr:=Zab (n:=100000) (l:=[aw2,aw10]) follows Zad ⟨ZJN,⟨ZCC,trivial⟩⟩ (by kernel_rfl)
def aw12:Fact:=⟨85,[(.bool true),(.int .i64 10)],(.int .i64 0),none⟩
theorem Zo9:Zai Try.prog aw12.f aw12.args aw12.r aw12.fr:=Zab (n:=100000) (l:=[]) follows Zad trivial (by kernel_rfl)
def aw13:Fact:=⟨85,[(.bool true),(.int .i64 8)],(.int .i64 0),none⟩
theorem Zvq:Zai Try.prog aw13.f aw13.args aw13.r aw13.fr:=Zab (n:=100000) (l:=[]) follows Zad trivial (by kernel_rfl)
def aw14:Fact:=⟨91,[(.int .i64 (-1)),(.int .i64 (-7)),(.int .i64 7)],(.bool true),none⟩
theorem ZDt:Zai Try.prog aw14.f aw14.args aw14.r aw14.fr:=Zab (n:=100000) (l:=[]) follows Zad trivial (by kernel_rfl)
def aw15:Fact:=⟨111,[(.int .i64 (-1)),(.eptr (.int .i64 (-7)) 0),(.eptr (.int .i64 7) 0)],(.bool false),none⟩
theorem ZDC:Zai Try.prog aw15.f aw15.args aw15.r aw15.fr:=Zab (n:=100000) (l:=[aw14]) follows Zad ⟨ZDt,trivial⟩ (by kernel_rfl)
def aw16:Fact:=⟨91,[(.int .i64 1),(.int .i64 (-7)),(.int .i64 7)],(.bool true),none⟩
theorem ZBQ:Zai Try.prog aw16.f aw16.args aw16.r aw16.fr:=Zab (n:=100000) (l:=[]) follows Zad trivial (by kernel_rfl)
def aw17:Fact:=⟨111,[(.int .i64 1),(.eptr (.int .i64 (-7)) 0),(.eptr (.int .i64 7) 0)],(.bool false),none⟩
theorem ZC6:Zai Try.prog aw17.f aw17.args aw17.r aw17.fr:=Zab (n:=100000) (l:=[aw16]) follows Zad ⟨ZBQ,trivial⟩ (by kernel_rfl)
def aw18:Fact:=⟨123,[(.list (.ints .i64 [(-1),(-1),1,1,(-1),(-1),1,1])),(.fn 111 [(.eptr (.int .i64 (-7)) 0),(.eptr (.int .i64 7) 0)])],(.int .i64 (-1)),none⟩
theorem ZE2:Zai Try.prog aw18.f aw18.args aw18.r aw18.fr:=Zab (n:=100000) (l:=[aw15,aw17]) follows Zad ⟨ZDC,⟨ZC6,trivial⟩⟩ (by kernel_rfl)
def aw19:Fact:=⟨110,[(.list (.ints .i64 [(-1),(-1),1,1,(-1),(-1),1,1])),(.fn 111 [(.eptr (.int .i64 (-7)) 0),(.eptr (.int .i64 7) 0)])],(.bool false),none⟩
theorem ZB5:Zai Try.prog aw19.f aw19.args aw19.r aw19.fr:=Zab (n:=100000) (l:=[aw18]) follows Zad ⟨ZE2,trivial⟩ (by kernel_rfl)
def aw20:Fact:=⟨70,[(.list (.ints .i64 [(-1),(-1),1,1,(-1),(-1),1,1])),(.int .i64 (-7)),(.int .i64 7)],(.int .i64 0),none⟩
theorem ZEj:Zai Try.prog aw20.f aw20.args aw20.r aw20.fr:=Zab (n:=100000) (l:=[aw19,aw9]) follows Zad ⟨ZB5,⟨Zjt,trivial⟩⟩ (by kernel_rfl)
def aw21:Fact:=⟨72,[(.list (.ints .i64 [0,0,0]))],(.int .i64 0),none⟩
theorem ZtG:Zai Try.prog aw21.f aw21.args aw21.r aw21.fr:=Zab (n:=100000) (l:=[]) follows Zad trivial (by kernel_rfl)
def aw22:Fact:=⟨64,[(.agg (.gen [(.int .i64 2),(.int .i64 7),(.int .i64 5)])),(.list (.ints .i64 [(-1),(-1),1,1,(-1),(-1),1,1]))],(.int .i64 0),none⟩
theorem ZB9:Zai Try.prog aw22.f aw22.args aw22.r aw22.fr:=Zab (n:=100000) (l:=[aw12,aw13,aw20,aw21]) follows Zad ⟨Zo9,⟨Zvq,⟨ZEj,⟨ZtG,trivial⟩⟩⟩⟩ (by kernel_rfl)
def aw23:Fact:=⟨84,[(.agg (.gen [(.int .i64 2),(.int .i64 7),(.int .i64 5),(.list (.ints .i64 [(-1),(-1),1,1,(-1),(-1),1,1]))]))],(.int .i64 4),none⟩
theorem ZtH:Zai Try.prog aw23.f aw23.args aw23.r aw23.fr:=Zab (n:=100000) (l:=[]) follows Zad trivial (by kernel_rfl)
def aw24:Fact:=⟨86,[(.agg (.gen [(.int .i64 2),(.int .i64 7),(.int .i64 5),(.list (.ints .i64 [(-1),(-1),1,1,(-1),(-1),1,1]))]))],(.int .i64 4),none⟩
theorem ZDM:Zai Try.prog aw24.f aw24.args aw24.r aw24.fr:=Zab (n:=100000) (l:=[]) follows Zad trivial (by kernel_rfl)
def aw25:Fact:=⟨127,[(.int .u64 1),(.int .u64 4)],(.tup [(.int .u64 0),(.int .u64 4)]),none⟩
theorem ZEQ:Zai Try.prog aw25.f aw25.args aw25.r aw25.fr:=Zab (n:=100000) (l:=[]) follows Zad trivial (by kernel_rfl)
def aw26:Fact:=⟨114,[(.int .u64 1),(.int .u64 4)],(.tup [(.int .u64 0),(.int .u64 4)]),none⟩
theorem Zwv:Zai Try.prog aw26.f aw26.args aw26.r aw26.fr:=Zab (n:=100000) (l:=[aw25]) follows Zad ⟨ZEQ,trivial⟩ (by kernel_rfl)
def aw27:Fact:=⟨122,[(.list (.flts .f32 [3351465984])),(.int .i64 4)],(.row 0 0),(some ⟨118,1,(.flts .f32 [3351465984,3351465984,3351465984,3351465984])⟩)⟩
theorem ZE9:Zai Try.prog aw27.f aw27.args aw27.r aw27.fr:=Zab (n:=100000) (l:=[aw26]) follows Zad ⟨Zwv,trivial⟩ (by kernel_rfl)
def aw28:Fact:=⟨125,[(.int .u64 0)],(.int .i64 0),none⟩
theorem ZC0:Zai Try.prog aw28.f aw28.args aw28.r aw28.fr:=Zab (n:=100000) (l:=[]) follows Zad trivial (by kernel_rfl)
def aw29:Fact:=⟨113,[(.int .u64 0)],(.int .i64 0),none⟩
theorem Zvi:Zai Try.prog aw29.f aw29.args aw29.r aw29.fr:=Zab (n:=100000) (l:=[aw28]) follows Zad ⟨ZC0,trivial⟩ (by kernel_rfl)
def aw30:Fact:=⟨82,[(.agg (.gen [(.int .i64 2),(.int .i64 7),(.int .i64 5)])),(.int .i64 0),(.int .i64 0)],(.tup [(.int .i64 0),(.agg (.ints .i64 [0,0]))]),none⟩
theorem ZDS:Zai Try.prog aw30.f aw30.args aw30.r aw30.fr:=Zab (n:=100000) (l:=[aw29]) follows Zad ⟨Zvi,trivial⟩ (by kernel_rfl)
def aw31:Fact:=⟨89,[(.int .i64 0),(.int .i64 1)],(.int .i64 1),none⟩
theorem ZE6:Zai Try.prog aw31.f aw31.args aw31.r aw31.fr:=Zab (n:=100000) (l:=[]) follows Zad trivial (by kernel_rfl)
def aw32:Fact:=⟨108,[(.agg (.gen [(.int .i64 2),(.int .i64 7),(.int .i64 5),(.list (.ints .i64 [(-1),(-1),1,1,(-1),(-1),1,1]))]))],(.int .i64 2),none⟩
theorem ZCR:Zai Try.prog aw32.f aw32.args aw32.r aw32.fr:=Zab (n:=100000) (l:=[aw23]) follows Zad ⟨ZtH,trivial⟩ (by kernel_rfl)
def aw33:Fact:=⟨125,[(.int .u64 1)],(.int .i64 1),none⟩
theorem ZCy:Zai Try.prog aw33.f aw33.args aw33.r aw33.fr:=Zab (n:=100000) (l:=[]) follows Zad trivial (by kernel_rfl)
def aw34:Fact:=⟨113,[(.int .u64 1)],(.int .i64 1),none⟩
theorem Zu6:Zai Try.prog aw34.f aw34.args aw34.r aw34.fr:=Zab (n:=100000) (l:=[aw33]) follows Zad ⟨ZCy,trivial⟩ (by kernel_rfl)
def aw35:Fact:=⟨82,[(.agg (.gen [(.int .i64 2),(.int .i64 7),(.int .i64 5)])),(.int .i64 1),(.int .i64 0)],(.tup [(.int .i64 0),(.agg (.ints .i64 [1,1]))]),none⟩
theorem ZuR:Zai Try.prog aw35.f aw35.args aw35.r aw35.fr:=Zab (n:=100000) (l:=[aw34]) follows Zad ⟨Zu6,trivial⟩ (by kernel_rfl)
def aw36:Fact:=⟨89,[(.int .i64 1),(.int .i64 1)],(.int .i64 (-1)),none⟩
theorem ZDO:Zai Try.prog aw36.f aw36.args aw36.r aw36.fr:=Zab (n:=100000) (l:=[]) follows Zad trivial (by kernel_rfl)
def aw37:Fact:=⟨125,[(.int .u64 2)],(.int .i64 1),none⟩
theorem ZCS:Zai Try.prog aw37.f aw37.args aw37.r aw37.fr:=Zab (n:=100000) (l:=[]) follows Zad trivial (by kernel_rfl)
def aw38:Fact:=⟨113,[(.int .u64 2)],(.int .i64 1),none⟩
theorem ZEy:Zai Try.prog aw38.f aw38.args aw38.r aw38.fr:=Zab (n:=100000) (l:=[aw37]) follows Zad ⟨ZCS,trivial⟩ (by kernel_rfl)
def aw39:Fact:=⟨82,[(.agg (.gen [(.int .i64 2),(.int .i64 7),(.int .i64 5)])),(.int .i64 2),(.int .i64 0)],(.tup [(.int .i64 1),(.agg (.ints .i64 [1,0]))]),none⟩
theorem ZtN:Zai Try.prog aw39.f aw39.args aw39.r aw39.fr:=Zab (n:=100000) (l:=[aw38,aw29]) follows Zad ⟨ZEy,⟨Zvi,trivial⟩⟩ (by kernel_rfl)
def aw40:Fact:=⟨125,[(.int .u64 3)],(.int .i64 2),none⟩
theorem ZEP:Zai Try.prog aw40.f aw40.args aw40.r aw40.fr:=Zab (n:=100000) (l:=[]) follows Zad trivial (by kernel_rfl)
def aw41:Fact:=⟨113,[(.int .u64 3)],(.int .i64 2),none⟩
theorem ZEf:Zai Try.prog aw41.f aw41.args aw41.r aw41.fr:=Zab (n:=100000) (l:=[aw40]) follows Zad ⟨ZEP,trivial⟩ (by kernel_rfl)
def aw42:Fact:=⟨82,[(.agg (.gen [(.int .i64 2),(.int .i64 7),(.int .i64 5)])),(.int .i64 3),(.int .i64 0)],(.tup [(.int .i64 1),(.agg (.ints .i64 [0,1]))]),none⟩
theorem Zv3:Zai Try.prog aw42.f aw42.args aw42.r aw42.fr:=Zab (n:=100000) (l:=[aw41,aw34]) follows Zad ⟨ZEf,⟨Zu6,trivial⟩⟩ (by kernel_rfl)
def aw43:Fact:=⟨89,[(.int .i64 0),(.int .i64 (-1))],(.int .i64 (-1)),none⟩
theorem ZD3:Zai Try.prog aw43.f aw43.args aw43.r aw43.fr:=Zab (n:=100000) (l:=[]) follows Zad trivial (by kernel_rfl)
def aw44:Fact:=⟨89,[(.int .i64 1),(.int .i64 (-1))],(.int .i64 1),none⟩
theorem ZDJ:Zai Try.prog aw44.f aw44.args aw44.r aw44.fr:=Zab (n:=100000) (l:=[]) follows Zad trivial (by kernel_rfl)
def aw45:Fact:=⟨125,[(.int .u64 4)],(.int .i64 1),none⟩
theorem ZCj:Zai Try.prog aw45.f aw45.args aw45.r aw45.fr:=Zab (n:=100000) (l:=[]) follows Zad trivial (by kernel_rfl)
def aw46:Fact:=⟨113,[(.int .u64 4)],(.int .i64 1),none⟩
theorem ZuG:Zai Try.prog aw46.f aw46.args aw46.r aw46.fr:=Zab (n:=100000) (l:=[aw45]) follows Zad ⟨ZCj,trivial⟩ (by kernel_rfl)
def aw47:Fact:=⟨82,[(.agg (.gen [(.int .i64 2),(.int .i64 7),(.int .i64 5)])),(.int .i64 0),(.int .i64 1)],(.tup [(.int .i64 2),(.agg (.ints .i64 [1,1]))]),none⟩
theorem ZvK:Zai Try.prog aw47.f aw47.args aw47.r aw47.fr:=Zab (n:=100000) (l:=[aw46]) follows Zad ⟨ZuG,trivial⟩ (by kernel_rfl)
def aw48:Fact:=⟨125,[(.int .u64 5)],(.int .i64 2),none⟩
theorem ZDH:Zai Try.prog aw48.f aw48.args aw48.r aw48.fr:=Zab (n:=100000) (l:=[]) follows Zad trivial (by kernel_rfl)
def aw49:Fact:=⟨113,[(.int .u64 5)],(.int .i64 2),none⟩
theorem ZvF:Zai Try.prog aw49.f aw49.args aw49.r aw49.fr:=Zab (n:=100000) (l:=[aw48]) follows Zad ⟨ZDH,trivial⟩ (by kernel_rfl)
def aw50:Fact:=⟨82,[(.agg (.gen [(.int .i64 2),(.int .i64 7),(.int .i64 5)])),(.int .i64 1),(.int .i64 1)],(.tup [(.int .i64 2),(.agg (.ints .i64 [0,0]))]),none⟩
theorem Zt9:Zai Try.prog aw50.f aw50.args aw50.r aw50.fr:=Zab (n:=100000) (l:=[aw49]) follows Zad ⟨ZvF,trivial⟩ (by kernel_rfl)
def aw51:Fact:=⟨125,[(.int .u64 6)],(.int .i64 2),none⟩
theorem ZFg:Zai Try.prog aw51.f aw51.args aw51.r aw51.fr:=Zab (n:=100000) (l:=[]) follows Zad trivial (by kernel_rfl)
def aw52:Fact:=⟨113,[(.int .u64 6)],(.int .i64 2),none⟩
theorem ZBC:Zai Try.prog aw52.f aw52.args aw52.r aw52.fr:=Zab (n:=100000) (l:=[aw51]) follows Zad ⟨ZFg,trivial⟩ (by kernel_rfl)
def aw53:Fact:=⟨82,[(.agg (.gen [(.int .i64 2),(.int .i64 7),(.int .i64 5)])),(.int .i64 2),(.int .i64 1)],(.tup [(.int .i64 3),(.agg (.ints .i64 [0,1]))]),none⟩
theorem ZtV:Zai Try.prog aw53.f aw53.args aw53.r aw53.fr:=Zab (n:=100000) (l:=[aw52,aw46]) follows Zad ⟨ZBC,⟨ZuG,trivial⟩⟩ (by kernel_rfl)
def aw54:Fact:=⟨125,[(.int .u64 7)],(.int .i64 3),none⟩
theorem ZCp:Zai Try.prog aw54.f aw54.args aw54.r aw54.fr:=Zab (n:=100000) (l:=[]) follows Zad trivial (by kernel_rfl)
def aw55:Fact:=⟨113,[(.int .u64 7)],(.int .i64 3),none⟩
theorem ZDj:Zai Try.prog aw55.f aw55.args aw55.r aw55.fr:=Zab (n:=100000) (l:=[aw54]) follows Zad ⟨ZCp,trivial⟩ (by kernel_rfl)
def aw56:Fact:=⟨82,[(.agg (.gen [(.int .i64 2),(.int .i64 7),(.int .i64 5)])),(.int .i64 3),(.int .i64 1)],(.tup [(.int .i64 3),(.agg (.ints .i64 [1,0]))]),none⟩
theorem ZvN:Zai Try.prog aw56.f aw56.args aw56.r aw56.fr:=Zab (n:=100000) (l:=[aw55,aw49]) follows Zad ⟨ZDj,⟨ZvF,trivial⟩⟩ (by kernel_rfl)
def aw57:Fact:=⟨65,[(.agg (.gen [(.int .i64 2),(.int .i64 7),(.int .i64 5),(.list (.ints .i64 [(-1),(-1),1,1,(-1),(-1),1,1]))]))],(.tup [(.row 0 0),(.int .i64 6)]),(some ⟨3,1,(.ints .i64 [1,0])⟩)⟩
theorem ZDw:Zai Try.prog aw57.f aw57.args aw57.r aw57.fr:=Zab (n:=100000) (l:=[aw23,aw24,aw27,aw30,aw31,aw32,aw35,aw36,aw39,aw42,aw43,aw44,aw47,aw50,aw53,aw56]) follows Zad ⟨ZtH,⟨ZDM,⟨ZE9,⟨ZDS,⟨ZE6,⟨ZCR,⟨ZuR,⟨ZDO,⟨ZtN,⟨Zv3,⟨ZD3,⟨ZDJ,⟨ZvK,⟨Zt9,⟨ZtV,⟨ZvN,trivial⟩⟩⟩⟩⟩⟩⟩⟩⟩⟩⟩⟩⟩⟩⟩⟩ (by kernel_rfl)
def aw58:Fact:=⟨13,[(.agg (.gen [(.int .i64 2),(.int .i64 7),(.int .i64 5)])),(.list (.ints .i64 [(-1),(-1),1,1,(-1),(-1),1,1]))],(.tup [(.row 0 0),(.int .i64 6),(.int .i64 0)]),(some ⟨3,1,(.ints .i64 [1,0])⟩)⟩
theorem ZEq:Zai Try.prog aw58.f aw58.args aw58.r aw58.fr:=Zab (n:=100000) (l:=[aw11,aw22,aw57]) follows Zad ⟨Zwa,⟨ZB9,⟨ZDw,trivial⟩⟩⟩ (by kernel_rfl)
def aw59:Fact:=⟨60,[(.int .i64 1)],(.row 0 0),(some ⟨3,1,(.ints .i64 [0,0,0,0,0,0,0,0,0,0,0,0,1])⟩)⟩
theorem ZDT:Zai Try.prog aw59.f aw59.args aw59.r aw59.fr:=Zab (n:=100000) (l:=[]) follows Zad trivial (by kernel_rfl)
def aw60:Fact:=⟨91,[(.int .i64 1),(.int .i64 1),(.int .i64 3)],(.bool true),none⟩
theorem ZDl:Zai Try.prog aw60.f aw60.args aw60.r aw60.fr:=Zab (n:=100000) (l:=[]) follows Zad trivial (by kernel_rfl)
def aw61:Fact:=⟨73,[(.int .i64 1)],(.int .i64 0),none⟩
theorem ZBO:Zai Try.prog aw61.f aw61.args aw61.r aw61.fr:=Zab (n:=100000) (l:=[aw60,aw9]) follows Zad ⟨ZDl,⟨Zjt,trivial⟩⟩ (by kernel_rfl)
def aw62:Fact:=⟨91,[(.int .i64 0),(.int .i64 0),(.int .i64 15)],(.bool true),none⟩
theorem ZEd:Zai Try.prog aw62.f aw62.args aw62.r aw62.fr:=Zab (n:=100000) (l:=[]) follows Zad trivial (by kernel_rfl)
def aw63:Fact:=⟨111,[(.int .i64 0),(.eptr (.int .i64 0) 0),(.eptr (.int .i64 15) 0)],(.bool false),none⟩
theorem ZEu:Zai Try.prog aw63.f aw63.args aw63.r aw63.fr:=Zab (n:=100000) (l:=[aw62]) follows Zad ⟨ZEd,trivial⟩ (by kernel_rfl)
def aw64:Fact:=⟨91,[(.int .i64 1),(.int .i64 0),(.int .i64 15)],(.bool true),none⟩
theorem ZFa:Zai Try.prog aw64.f aw64.args aw64.r aw64.fr:=Zab (n:=100000) (l:=[]) follows Zad trivial (by kernel_rfl)
def aw65:Fact:=⟨111,[(.int .i64 1),(.eptr (.int .i64 0) 0),(.eptr (.int .i64 15) 0)],(.bool false),none⟩
theorem ZB4:Zai Try.prog aw65.f aw65.args aw65.r aw65.fr:=Zab (n:=100000) (l:=[aw64]) follows Zad ⟨ZFa,trivial⟩ (by kernel_rfl)
def aw66:Fact:=⟨123,[(.list (.ints .i64 [0,0,0,0,0,0,0,0,0,0,0,0,1])),(.fn 111 [(.eptr (.int .i64 0) 0),(.eptr (.int .i64 15) 0)])],(.int .i64 (-1)),none⟩
theorem ZBY:Zai Try.prog aw66.f aw66.args aw66.r aw66.fr:=Zab (n:=100000) (l:=[aw63,aw65]) follows Zad ⟨ZEu,⟨ZB4,trivial⟩⟩ (by kernel_rfl)
def aw67:Fact:=⟨110,[(.list (.ints .i64 [0,0,0,0,0,0,0,0,0,0,0,0,1])),(.fn 111 [(.eptr (.int .i64 0) 0),(.eptr (.int .i64 15) 0)])],(.bool false),none⟩
theorem ZCW:Zai Try.prog aw67.f aw67.args aw67.r aw67.fr:=Zab (n:=100000) (l:=[aw66]) follows Zad ⟨ZBY,trivial⟩ (by kernel_rfl)
def aw68:Fact:=⟨70,[(.list (.ints .i64 [0,0,0,0,0,0,0,0,0,0,0,0,1])),(.int .i64 0),(.int .i64 15)],(.int .i64 0),none⟩
theorem ZEE:Zai Try.prog aw68.f aw68.args aw68.r aw68.fr:=Zab (n:=100000) (l:=[aw67,aw9]) follows Zad ⟨ZCW,⟨Zjt,trivial⟩⟩ (by kernel_rfl)
def aw69:Fact:=⟨72,[(.list (.ints .i64 [0,0]))],(.int .i64 0),none⟩
theorem Zm1:Zai Try.prog aw69.f aw69.args aw69.r aw69.fr:=Zab (n:=100000) (l:=[]) follows Zad trivial (by kernel_rfl)
def aw70:Fact:=⟨74,[(.list (.ints .i64 [0,0,0,0,0,0,0,0,0,0,0,0,1])),(.int .i64 13)],(.int .i64 0),none⟩
theorem ZC8:Zai Try.prog aw70.f aw70.args aw70.r aw70.fr:=Zab (n:=100000) (l:=[aw12,aw68,aw69]) follows Zad ⟨Zo9,⟨ZEE,⟨Zm1,trivial⟩⟩⟩ (by kernel_rfl)
def aw71:Fact:=⟨71,[(.int .i64 1),(.int .i64 2)],(.int .i64 2),none⟩
theorem ZaT:Zai Try.prog aw71.f aw71.args aw71.r aw71.fr:=Zab (n:=100000) (l:=[]) follows Zad trivial (by kernel_rfl)
def aw72:Fact:=⟨71,[(.int .i64 2),(.int .i64 2)],(.int .i64 4),none⟩
theorem ZaV:Zai Try.prog aw72.f aw72.args aw72.r aw72.fr:=Zab (n:=100000) (l:=[]) follows Zad trivial (by kernel_rfl)
def aw73:Fact:=⟨71,[(.int .i64 4),(.int .i64 2)],(.int .i64 8),none⟩
theorem Za6:Zai Try.prog aw73.f aw73.args aw73.r aw73.fr:=Zab (n:=100000) (l:=[]) follows Zad trivial (by kernel_rfl)
def aw74:Fact:=⟨71,[(.int .i64 8),(.int .i64 2)],(.int .i64 3),none⟩
theorem Zbs:Zai Try.prog aw74.f aw74.args aw74.r aw74.fr:=Zab (n:=100000) (l:=[]) follows Zad trivial (by kernel_rfl)
def aw75:Fact:=⟨71,[(.int .i64 3),(.int .i64 2)],(.int .i64 6),none⟩
theorem Zbr:Zai Try.prog aw75.f aw75.args aw75.r aw75.fr:=Zab (n:=100000) (l:=[]) follows Zad trivial (by kernel_rfl)
def aw76:Fact:=⟨71,[(.int .i64 6),(.int .i64 2)],(.int .i64 12),none⟩
theorem ZbX:Zai Try.prog aw76.f aw76.args aw76.r aw76.fr:=Zab (n:=100000) (l:=[]) follows Zad trivial (by kernel_rfl)
def aw77:Fact:=⟨71,[(.int .i64 12),(.int .i64 2)],(.int .i64 11),none⟩
theorem Zck:Zai Try.prog aw77.f aw77.args aw77.r aw77.fr:=Zab (n:=100000) (l:=[]) follows Zad trivial (by kernel_rfl)
def aw78:Fact:=⟨71,[(.int .i64 11),(.int .i64 2)],(.int .i64 5),none⟩
theorem Zc5:Zai Try.prog aw78.f aw78.args aw78.r aw78.fr:=Zab (n:=100000) (l:=[]) follows Zad trivial (by kernel_rfl)
def aw79:Fact:=⟨71,[(.int .i64 5),(.int .i64 2)],(.int .i64 10),none⟩
theorem ZdG:Zai Try.prog aw79.f aw79.args aw79.r aw79.fr:=Zab (n:=100000) (l:=[]) follows Zad trivial (by kernel_rfl)
def aw80:Fact:=⟨71,[(.int .i64 10),(.int .i64 2)],(.int .i64 7),none⟩
theorem ZfF:Zai Try.prog aw80.f aw80.args aw80.r aw80.fr:=Zab (n:=100000) (l:=[]) follows Zad trivial (by kernel_rfl)
def aw81:Fact:=⟨71,[(.int .i64 7),(.int .i64 2)],(.int .i64 14),none⟩
theorem Zh3:Zai Try.prog aw81.f aw81.args aw81.r aw81.fr:=Zab (n:=100000) (l:=[]) follows Zad trivial (by kernel_rfl)
def aw82:Fact:=⟨71,[(.int .i64 14),(.int .i64 2)],(.int .i64 15),none⟩
theorem Zm4:Zai Try.prog aw82.f aw82.args aw82.r aw82.fr:=Zab (n:=100000) (l:=[]) follows Zad trivial (by kernel_rfl)
def aw83:Fact:=⟨71,[(.int .i64 15),(.int .i64 2)],(.int .i64 13),none⟩
theorem Zqj:Zai Try.prog aw83.f aw83.args aw83.r aw83.fr:=Zab (n:=100000) (l:=[]) follows Zad trivial (by kernel_rfl)
def aw84:Fact:=⟨71,[(.int .i64 13),(.int .i64 2)],(.int .i64 9),none⟩
theorem ZDU:Zai Try.prog aw84.f aw84.args aw84.r aw84.fr:=Zab (n:=100000) (l:=[]) follows Zad trivial (by kernel_rfl)
def aw85:Fact:=⟨117,[(.int .i64 14)],(.int .i64 9),none⟩
theorem ZvR:Zai Try.prog aw85.f aw85.args aw85.r aw85.fr:=Zab (n:=100000) (l:=[aw71,aw72,aw73,aw74,aw75,aw76,aw77,aw78,aw79,aw80,aw81,aw82,aw83,aw84]) follows Zad ⟨ZaT,⟨ZaV,⟨Za6,⟨Zbs,⟨Zbr,⟨ZbX,⟨Zck,⟨Zc5,⟨ZdG,⟨ZfF,⟨Zh3,⟨Zm4,⟨Zqj,⟨ZDU,trivial⟩⟩⟩⟩⟩⟩⟩⟩⟩⟩⟩⟩⟩⟩ (by kernel_rfl)
def aw86:Fact:=⟨71,[(.int .i64 0),(.int .i64 9)],(.int .i64 0),none⟩
theorem Zpe:Zai Try.prog aw86.f aw86.args aw86.r aw86.fr:=Zab (n:=100000) (l:=[]) follows Zad trivial (by kernel_rfl)
def aw87:Fact:=⟨117,[(.int .i64 13)],(.int .i64 13),none⟩
theorem ZCP:Zai Try.prog aw87.f aw87.args aw87.r aw87.fr:=Zab (n:=100000) (l:=[aw71,aw72,aw73,aw74,aw75,aw76,aw77,aw78,aw79,aw80,aw81,aw82,aw83]) follows Zad ⟨ZaT,⟨ZaV,⟨Za6,⟨Zbs,⟨Zbr,⟨ZbX,⟨Zck,⟨Zc5,⟨ZdG,⟨ZfF,⟨Zh3,⟨Zm4,⟨Zqj,trivial⟩⟩⟩⟩⟩⟩⟩⟩⟩⟩⟩⟩⟩ (by kernel_rfl)
def aw88:Fact:=⟨71,[(.int .i64 0),(.int .i64 13)],(.int .i64 0),none⟩
theorem Zvj:Zai Try.prog aw88.f aw88.args aw88.r aw88.fr:=Zab (n:=100000) (l:=[]) follows Zad trivial (by kernel_rfl)
def aw89:Fact:=⟨117,[(.int .i64 12)],(.int .i64 15),none⟩
theorem Zvb:Zai Try.prog aw89.f aw89.args aw89.r aw89.fr:=Zab (n:=100000) (l:=[aw71,aw72,aw73,aw74,aw75,aw76,aw77,aw78,aw79,aw80,aw81,aw82]) follows Zad ⟨ZaT,⟨ZaV,⟨Za6,⟨Zbs,⟨Zbr,⟨ZbX,⟨Zck,⟨Zc5,⟨ZdG,⟨ZfF,⟨Zh3,⟨Zm4,trivial⟩⟩⟩⟩⟩⟩⟩⟩⟩⟩⟩⟩ (by kernel_rfl)
def aw90:Fact:=⟨71,[(.int .i64 0),(.int .i64 15)],(.int .i64 0),none⟩
theorem ZtF:Zai Try.prog aw90.f aw90.args aw90.r aw90.fr:=Zab (n:=100000) (l:=[]) follows Zad trivial (by kernel_rfl)
def aw91:Fact:=⟨117,[(.int .i64 11)],(.int .i64 14),none⟩
theorem ZEI:Zai Try.prog aw91.f aw91.args aw91.r aw91.fr:=Zab (n:=100000) (l:=[aw71,aw72,aw73,aw74,aw75,aw76,aw77,aw78,aw79,aw80,aw81]) follows Zad ⟨ZaT,⟨ZaV,⟨Za6,⟨Zbs,⟨Zbr,⟨ZbX,⟨Zck,⟨Zc5,⟨ZdG,⟨ZfF,⟨Zh3,trivial⟩⟩⟩⟩⟩⟩⟩⟩⟩⟩⟩ (by kernel_rfl)
def aw92:Fact:=⟨71,[(.int .i64 0),(.int .i64 14)],(.int .i64 0),none⟩
theorem Zqm:Zai Try.prog aw92.f aw92.args aw92.r aw92.fr:=Zab (n:=100000) (l:=[]) follows Zad trivial (by kernel_rfl)
def aw93:Fact:=⟨117,[(.int .i64 10)],(.int .i64 7),none⟩
theorem Zwp:Zai Try.prog aw93.f aw93.args aw93.r aw93.fr:=Zab (n:=100000) (l:=[aw71,aw72,aw73,aw74,aw75,aw76,aw77,aw78,aw79,aw80]) follows Zad ⟨ZaT,⟨ZaV,⟨Za6,⟨Zbs,⟨Zbr,⟨ZbX,⟨Zck,⟨Zc5,⟨ZdG,⟨ZfF,trivial⟩⟩⟩⟩⟩⟩⟩⟩⟩⟩ (by kernel_rfl)
def aw94:Fact:=⟨71,[(.int .i64 0),(.int .i64 7)],(.int .i64 0),none⟩
theorem ZvT:Zai Try.prog aw94.f aw94.args aw94.r aw94.fr:=Zab (n:=100000) (l:=[]) follows Zad trivial (by kernel_rfl)
def aw95:Fact:=⟨117,[(.int .i64 9)],(.int .i64 10),none⟩
theorem ZCH:Zai Try.prog aw95.f aw95.args aw95.r aw95.fr:=Zab (n:=100000) (l:=[aw71,aw72,aw73,aw74,aw75,aw76,aw77,aw78,aw79]) follows Zad ⟨ZaT,⟨ZaV,⟨Za6,⟨Zbs,⟨Zbr,⟨ZbX,⟨Zck,⟨Zc5,⟨ZdG,trivial⟩⟩⟩⟩⟩⟩⟩⟩⟩ (by kernel_rfl)
def aw96:Fact:=⟨71,[(.int .i64 0),(.int .i64 10)],(.int .i64 0),none⟩
theorem Zv9:Zai Try.prog aw96.f aw96.args aw96.r aw96.fr:=Zab (n:=100000) (l:=[]) follows Zad trivial (by kernel_rfl)
def aw97:Fact:=⟨117,[(.int .i64 8)],(.int .i64 5),none⟩
theorem Zuj:Zai Try.prog aw97.f aw97.args aw97.r aw97.fr:=Zab (n:=100000) (l:=[aw71,aw72,aw73,aw74,aw75,aw76,aw77,aw78]) follows Zad ⟨ZaT,⟨ZaV,⟨Za6,⟨Zbs,⟨Zbr,⟨ZbX,⟨Zck,⟨Zc5,trivial⟩⟩⟩⟩⟩⟩⟩⟩ (by kernel_rfl)
def aw98:Fact:=⟨71,[(.int .i64 0),(.int .i64 5)],(.int .i64 0),none⟩
theorem Zuz:Zai Try.prog aw98.f aw98.args aw98.r aw98.fr:=Zab (n:=100000) (l:=[]) follows Zad trivial (by kernel_rfl)
def aw99:Fact:=⟨117,[(.int .i64 7)],(.int .i64 11),none⟩
theorem ZDn:Zai Try.prog aw99.f aw99.args aw99.r aw99.fr:=Zab (n:=100000) (l:=[aw71,aw72,aw73,aw74,aw75,aw76,aw77]) follows Zad ⟨ZaT,⟨ZaV,⟨Za6,⟨Zbs,⟨Zbr,⟨ZbX,⟨Zck,trivial⟩⟩⟩⟩⟩⟩⟩ (by kernel_rfl)
def aw100:Fact:=⟨71,[(.int .i64 0),(.int .i64 11)],(.int .i64 0),none⟩
theorem Zrg:Zai Try.prog aw100.f aw100.args aw100.r aw100.fr:=Zab (n:=100000) (l:=[]) follows Zad trivial (by kernel_rfl)
def aw101:Fact:=⟨117,[(.int .i64 6)],(.int .i64 12),none⟩
theorem Zrf:Zai Try.prog aw101.f aw101.args aw101.r aw101.fr:=Zab (n:=100000) (l:=[aw71,aw72,aw73,aw74,aw75,aw76]) follows Zad ⟨ZaT,⟨ZaV,⟨Za6,⟨Zbs,⟨Zbr,⟨ZbX,trivial⟩⟩⟩⟩⟩⟩ (by kernel_rfl)
def aw102:Fact:=⟨71,[(.int .i64 0),(.int .i64 12)],(.int .i64 0),none⟩
theorem ZqP:Zai Try.prog aw102.f aw102.args aw102.r aw102.fr:=Zab (n:=100000) (l:=[]) follows Zad trivial (by kernel_rfl)
def aw103:Fact:=⟨117,[(.int .i64 5)],(.int .i64 6),none⟩
theorem Zxx:Zai Try.prog aw103.f aw103.args aw103.r aw103.fr:=Zab (n:=100000) (l:=[aw71,aw72,aw73,aw74,aw75]) follows Zad ⟨ZaT,⟨ZaV,⟨Za6,⟨Zbs,⟨Zbr,trivial⟩⟩⟩⟩⟩ (by kernel_rfl)
def aw104:Fact:=⟨71,[(.int .i64 0),(.int .i64 6)],(.int .i64 0),none⟩
theorem ZrN:Zai Try.prog aw104.f aw104.args aw104.r aw104.fr:=Zab (n:=100000) (l:=[]) follows Zad trivial (by kernel_rfl)
def aw105:Fact:=⟨117,[(.int .i64 4)],(.int .i64 3),none⟩
theorem Zrm:Zai Try.prog aw105.f aw105.args aw105.r aw105.fr:=Zab (n:=100000) (l:=[aw71,aw72,aw73,aw74]) follows Zad ⟨ZaT,⟨ZaV,⟨Za6,⟨Zbs,trivial⟩⟩⟩⟩ (by kernel_rfl)
def aw106:Fact:=⟨71,[(.int .i64 0),(.int .i64 3)],(.int .i64 0),none⟩
theorem ZyW:Zai Try.prog aw106.f aw106.args aw106.r aw106.fr:=Zab (n:=100000) (l:=[]) follows Zad trivial (by kernel_rfl)
def aw107:Fact:=⟨117,[(.int .i64 3)],(.int .i64 8),none⟩
theorem Zxm:Zai Try.prog aw107.f aw107.args aw107.r aw107.fr:=Zab (n:=100000) (l:=[aw71,aw72,aw73]) follows Zad ⟨ZaT,⟨ZaV,⟨Za6,trivial⟩⟩⟩ (by kernel_rfl)
def aw108:Fact:=⟨71,[(.int .i64 0),(.int .i64 8)],(.int .i64 0),none⟩
theorem Zrt:Zai Try.prog aw108.f aw108.args aw108.r aw108.fr:=Zab (n:=100000) (l:=[]) follows Zad trivial (by kernel_rfl)
def aw109:Fact:=⟨117,[(.int .i64 2)],(.int .i64 4),none⟩
theorem Zm0:Zai Try.prog aw109.f aw109.args aw109.r aw109.fr:=Zab (n:=100000) (l:=[aw71,aw72]) follows Zad ⟨ZaT,⟨ZaV,trivial⟩⟩ (by kernel_rfl)
def aw110:Fact:=⟨71,[(.int .i64 1),(.int .i64 4)],(.int .i64 4),none⟩
theorem ZrU:Zai Try.prog aw110.f aw110.args aw110.r aw110.fr:=Zab (n:=100000) (l:=[]) follows Zad trivial (by kernel_rfl)
def aw111:Fact:=⟨117,[(.int .i64 1)],(.int .i64 2),none⟩
theorem Zru:Zai Try.prog aw111.f aw111.args aw111.r aw111.fr:=Zab (n:=100000) (l:=[aw71]) follows Zad ⟨ZaT,trivial⟩ (by kernel_rfl)
def aw112:Fact:=⟨71,[(.int .i64 0),(.int .i64 2)],(.int .i64 0),none⟩
theorem Zq2:Zai Try.prog aw112.f aw112.args aw112.r aw112.fr:=Zab (n:=100000) (l:=[]) follows Zad trivial (by kernel_rfl)
def aw113:Fact:=⟨117,[(.int .i64 0)],(.int .i64 1),none⟩
theorem Zm6:Zai Try.prog aw113.f aw113.args aw113.r aw113.fr:=Zab (n:=100000) (l:=[]) follows Zad trivial (by kernel_rfl)
def aw114:Fact:=⟨71,[(.int .i64 0),(.int .i64 1)],(.int .i64 0),none⟩
theorem ZqE:Zai Try.prog aw114.f aw114.args aw114.r aw114.fr:=Zab (n:=100000) (l:=[]) follows Zad trivial (by kernel_rfl)
def aw115:Fact:=⟨112,[(.agg (.ints .i64 [0,0,0,0,0,0,0,0,0,0,0,0,1,0,0])),(.int .i64 1)],(.int .i64 4),none⟩
theorem Zxi:Zai Try.prog aw115.f aw115.args aw115.r aw115.fr:=Zab (n:=100000) (l:=[aw85,aw86,aw87,aw88,aw89,aw90,aw91,aw92,aw93,aw94,aw95,aw96,aw97,aw98,aw99,aw100,aw101,aw102,aw103,aw104,aw105,aw106,aw107,aw108,aw109,aw110,aw111,aw112,aw113,aw114]) follows Zad ⟨ZvR,⟨Zpe,⟨ZCP,⟨Zvj,⟨Zvb,⟨ZtF,⟨ZEI,⟨Zqm,⟨Zwp,⟨ZvT,⟨ZCH,⟨Zv9,⟨Zuj,⟨Zuz,⟨ZDn,⟨Zrg,⟨Zrf,⟨ZqP,⟨Zxx,⟨ZrN,⟨Zrm,⟨ZyW,⟨Zxm,⟨Zrt,⟨Zm0,⟨ZrU,⟨Zru,⟨Zq2,⟨Zm6,⟨ZqE,trivial⟩⟩⟩⟩⟩⟩⟩⟩⟩⟩⟩⟩⟩⟩⟩⟩⟩⟩⟩⟩⟩⟩⟩⟩⟩⟩⟩⟩⟩⟩ (by kernel_rfl)
def aw116:Fact:=⟨117,[(.int .i64 28)],(.int .i64 13),none⟩
theorem ZwX:Zai Try.prog aw116.f aw116.args aw116.r aw116.fr:=Zab (n:=100000) (l:=[aw71,aw72,aw73,aw74,aw75,aw76,aw77,aw78,aw79,aw80,aw81,aw82,aw83]) follows Zad ⟨ZaT,⟨ZaV,⟨Za6,⟨Zbs,⟨Zbr,⟨ZbX,⟨Zck,⟨Zc5,⟨ZdG,⟨ZfF,⟨Zh3,⟨Zm4,⟨Zqj,trivial⟩⟩⟩⟩⟩⟩⟩⟩⟩⟩⟩⟩⟩ (by kernel_rfl)
def aw117:Fact:=⟨117,[(.int .i64 26)],(.int .i64 14),none⟩
theorem Zxq:Zai Try.prog aw117.f aw117.args aw117.r aw117.fr:=Zab (n:=100000) (l:=[aw71,aw72,aw73,aw74,aw75,aw76,aw77,aw78,aw79,aw80,aw81]) follows Zad ⟨ZaT,⟨ZaV,⟨Za6,⟨Zbs,⟨Zbr,⟨ZbX,⟨Zck,⟨Zc5,⟨ZdG,⟨ZfF,⟨Zh3,trivial⟩⟩⟩⟩⟩⟩⟩⟩⟩⟩⟩ (by kernel_rfl)
def aw118:Fact:=⟨117,[(.int .i64 24)],(.int .i64 10),none⟩
theorem ZxI:Zai Try.prog aw118.f aw118.args aw118.r aw118.fr:=Zab (n:=100000) (l:=[aw71,aw72,aw73,aw74,aw75,aw76,aw77,aw78,aw79]) follows Zad ⟨ZaT,⟨ZaV,⟨Za6,⟨Zbs,⟨Zbr,⟨ZbX,⟨Zck,⟨Zc5,⟨ZdG,trivial⟩⟩⟩⟩⟩⟩⟩⟩⟩ (by kernel_rfl)
def aw119:Fact:=⟨117,[(.int .i64 22)],(.int .i64 11),none⟩
theorem ZyX:Zai Try.prog aw119.f aw119.args aw119.r aw119.fr:=Zab (n:=100000) (l:=[aw71,aw72,aw73,aw74,aw75,aw76,aw77]) follows Zad ⟨ZaT,⟨ZaV,⟨Za6,⟨Zbs,⟨Zbr,⟨ZbX,⟨Zck,trivial⟩⟩⟩⟩⟩⟩⟩ (by kernel_rfl)
def aw120:Fact:=⟨117,[(.int .i64 20)],(.int .i64 6),none⟩
theorem Zym:Zai Try.prog aw120.f aw120.args aw120.r aw120.fr:=Zab (n:=100000) (l:=[aw71,aw72,aw73,aw74,aw75]) follows Zad ⟨ZaT,⟨ZaV,⟨Za6,⟨Zbs,⟨Zbr,trivial⟩⟩⟩⟩⟩ (by kernel_rfl)
def aw121:Fact:=⟨117,[(.int .i64 18)],(.int .i64 8),none⟩
theorem ZxU:Zai Try.prog aw121.f aw121.args aw121.r aw121.fr:=Zab (n:=100000) (l:=[aw71,aw72,aw73]) follows Zad ⟨ZaT,⟨ZaV,⟨Za6,trivial⟩⟩⟩ (by kernel_rfl)
def aw122:Fact:=⟨117,[(.int .i64 16)],(.int .i64 2),none⟩
theorem Zxn:Zai Try.prog aw122.f aw122.args aw122.r aw122.fr:=Zab (n:=100000) (l:=[aw71]) follows Zad ⟨ZaT,trivial⟩ (by kernel_rfl)
def aw123:Fact:=⟨71,[(.int .i64 1),(.int .i64 3)],(.int .i64 3),none⟩
theorem ZwM:Zai Try.prog aw123.f aw123.args aw123.r aw123.fr:=Zab (n:=100000) (l:=[]) follows Zad trivial (by kernel_rfl)
def aw124:Fact:=⟨71,[(.int .i64 0),(.int .i64 4)],(.int .i64 0),none⟩
theorem Zy6:Zai Try.prog aw124.f aw124.args aw124.r aw124.fr:=Zab (n:=100000) (l:=[]) follows Zad trivial (by kernel_rfl)
def aw125:Fact:=⟨112,[(.agg (.ints .i64 [0,0,0,0,0,0,0,0,0,0,0,0,1,0,0])),(.int .i64 2)],(.int .i64 3),none⟩
theorem Zzt:Zai Try.prog aw125.f aw125.args aw125.r aw125.fr:=Zab (n:=100000) (l:=[aw116,aw88,aw117,aw92,aw118,aw96,aw119,aw100,aw120,aw104,aw121,aw108,aw122,aw112,aw85,aw86,aw89,aw90,aw93,aw94,aw97,aw98,aw101,aw102,aw105,aw123,aw109,aw124,aw113,aw114]) follows Zad ⟨ZwX,⟨Zvj,⟨Zxq,⟨Zqm,⟨ZxI,⟨Zv9,⟨ZyX,⟨Zrg,⟨Zym,⟨ZrN,⟨ZxU,⟨Zrt,⟨Zxn,⟨Zq2,⟨ZvR,⟨Zpe,⟨Zvb,⟨ZtF,⟨Zwp,⟨ZvT,⟨Zuj,⟨Zuz,⟨Zrf,⟨ZqP,⟨Zrm,⟨ZwM,⟨Zm0,⟨Zy6,⟨Zm6,⟨ZqE,trivial⟩⟩⟩⟩⟩⟩⟩⟩⟩⟩⟩⟩⟩⟩⟩⟩⟩⟩⟩⟩⟩⟩⟩⟩⟩⟩⟩⟩⟩⟩ (by kernel_rfl)
def aw126:Fact:=⟨75,[(.agg (.ints .i64 [0,0,0,0,0,0,0,0,0,0,0,0,1,0,0])),(.int .i64 1)],(.row 0 0),(some ⟨3,1,(.ints .i64 [4,3])⟩)⟩
theorem Zyp:Zai Try.prog aw126.f aw126.args aw126.r aw126.fr:=Zab (n:=100000) (l:=[aw115,aw125]) follows Zad ⟨Zxi,⟨Zzt,trivial⟩⟩ (by kernel_rfl)
def aw127:Fact:=⟨71,[(.int .i64 2),(.int .i64 1)],(.int .i64 2),none⟩
theorem Zyh:Zai Try.prog aw127.f aw127.args aw127.r aw127.fr:=Zab (n:=100000) (l:=[]) follows Zad trivial (by kernel_rfl)
def aw128:Fact:=⟨71,[(.int .i64 2),(.int .i64 3)],(.int .i64 6),none⟩
theorem Zyf:Zai Try.prog aw128.f aw128.args aw128.r aw128.fr:=Zab (n:=100000) (l:=[]) follows Zad trivial (by kernel_rfl)
def aw129:Fact:=⟨71,[(.int .i64 2),(.int .i64 4)],(.int .i64 8),none⟩
theorem ZqV:Zai Try.prog aw129.f aw129.args aw129.r aw129.fr:=Zab (n:=100000) (l:=[]) follows Zad trivial (by kernel_rfl)
def aw130:Fact:=⟨71,[(.int .i64 2),(.int .i64 5)],(.int .i64 10),none⟩
theorem Zzp:Zai Try.prog aw130.f aw130.args aw130.r aw130.fr:=Zab (n:=100000) (l:=[]) follows Zad trivial (by kernel_rfl)
def aw131:Fact:=⟨71,[(.int .i64 2),(.int .i64 6)],(.int .i64 12),none⟩
theorem ZyI:Zai Try.prog aw131.f aw131.args aw131.r aw131.fr:=Zab (n:=100000) (l:=[]) follows Zad trivial (by kernel_rfl)
def aw132:Fact:=⟨71,[(.int .i64 2),(.int .i64 7)],(.int .i64 14),none⟩
theorem ZxE:Zai Try.prog aw132.f aw132.args aw132.r aw132.fr:=Zab (n:=100000) (l:=[]) follows Zad trivial (by kernel_rfl)
def aw133:Fact:=⟨71,[(.int .i64 2),(.int .i64 8)],(.int .i64 3),none⟩
theorem Zya:Zai Try.prog aw133.f aw133.args aw133.r aw133.fr:=Zab (n:=100000) (l:=[]) follows Zad trivial (by kernel_rfl)
def aw134:Fact:=⟨71,[(.int .i64 2),(.int .i64 9)],(.int .i64 1),none⟩
theorem ZqF:Zai Try.prog aw134.f aw134.args aw134.r aw134.fr:=Zab (n:=100000) (l:=[]) follows Zad trivial (by kernel_rfl)
def aw135:Fact:=⟨128,[(.int .i64 2)],(.int .i64 9),none⟩
theorem Zxj:Zai Try.prog aw135.f aw135.args aw135.r aw135.fr:=Zab (n:=100000) (l:=[aw127,aw72,aw128,aw129,aw130,aw131,aw132,aw133,aw134]) follows Zad ⟨Zyh,⟨ZaV,⟨Zyf,⟨ZqV,⟨Zzp,⟨ZyI,⟨ZxE,⟨Zya,⟨ZqF,trivial⟩⟩⟩⟩⟩⟩⟩⟩⟩ (by kernel_rfl)
def aw136:Fact:=⟨71,[(.int .i64 1),(.int .i64 9)],(.int .i64 9),none⟩
theorem ZwQ:Zai Try.prog aw136.f aw136.args aw136.r aw136.fr:=Zab (n:=100000) (l:=[]) follows Zad trivial (by kernel_rfl)
def aw137:Fact:=⟨71,[(.int .i64 4),(.int .i64 9)],(.int .i64 2),none⟩
theorem ZxZ:Zai Try.prog aw137.f aw137.args aw137.r aw137.fr:=Zab (n:=100000) (l:=[]) follows Zad trivial (by kernel_rfl)
def aw138:Fact:=⟨71,[(.int .i64 9),(.int .i64 4)],(.int .i64 2),none⟩
theorem ZxY:Zai Try.prog aw138.f aw138.args aw138.r aw138.fr:=Zab (n:=100000) (l:=[]) follows Zad trivial (by kernel_rfl)
def aw139:Fact:=⟨71,[(.int .i64 3),(.int .i64 1)],(.int .i64 3),none⟩
theorem Zxg:Zai Try.prog aw139.f aw139.args aw139.r aw139.fr:=Zab (n:=100000) (l:=[]) follows Zad trivial (by kernel_rfl)
def aw140:Fact:=⟨71,[(.int .i64 3),(.int .i64 3)],(.int .i64 5),none⟩
theorem ZzD:Zai Try.prog aw140.f aw140.args aw140.r aw140.fr:=Zab (n:=100000) (l:=[]) follows Zad trivial (by kernel_rfl)
def aw141:Fact:=⟨71,[(.int .i64 3),(.int .i64 4)],(.int .i64 12),none⟩
theorem ZwG:Zai Try.prog aw141.f aw141.args aw141.r aw141.fr:=Zab (n:=100000) (l:=[]) follows Zad trivial (by kernel_rfl)
def aw142:Fact:=⟨71,[(.int .i64 3),(.int .i64 5)],(.int .i64 15),none⟩
theorem Zy3:Zai Try.prog aw142.f aw142.args aw142.r aw142.fr:=Zab (n:=100000) (l:=[]) follows Zad trivial (by kernel_rfl)
def aw143:Fact:=⟨71,[(.int .i64 3),(.int .i64 6)],(.int .i64 10),none⟩
theorem Zxv:Zai Try.prog aw143.f aw143.args aw143.r aw143.fr:=Zab (n:=100000) (l:=[]) follows Zad trivial (by kernel_rfl)
def aw144:Fact:=⟨71,[(.int .i64 3),(.int .i64 7)],(.int .i64 9),none⟩
theorem Zxu:Zai Try.prog aw144.f aw144.args aw144.r aw144.fr:=Zab (n:=100000) (l:=[]) follows Zad trivial (by kernel_rfl)
def aw145:Fact:=⟨71,[(.int .i64 3),(.int .i64 8)],(.int .i64 11),none⟩
theorem Zyr:Zai Try.prog aw145.f aw145.args aw145.r aw145.fr:=Zab (n:=100000) (l:=[]) follows Zad trivial (by kernel_rfl)
def aw146:Fact:=⟨71,[(.int .i64 3),(.int .i64 9)],(.int .i64 8),none⟩
theorem ZyM:Zai Try.prog aw146.f aw146.args aw146.r aw146.fr:=Zab (n:=100000) (l:=[]) follows Zad trivial (by kernel_rfl)
def aw147:Fact:=⟨71,[(.int .i64 3),(.int .i64 10)],(.int .i64 13),none⟩
theorem Zyv:Zai Try.prog aw147.f aw147.args aw147.r aw147.fr:=Zab (n:=100000) (l:=[]) follows Zad trivial (by kernel_rfl)
def aw148:Fact:=⟨71,[(.int .i64 3),(.int .i64 11)],(.int .i64 14),none⟩
theorem ZwH:Zai Try.prog aw148.f aw148.args aw148.r aw148.fr:=Zab (n:=100000) (l:=[]) follows Zad trivial (by kernel_rfl)
def aw149:Fact:=⟨71,[(.int .i64 3),(.int .i64 12)],(.int .i64 7),none⟩
theorem Zyg:Zai Try.prog aw149.f aw149.args aw149.r aw149.fr:=Zab (n:=100000) (l:=[]) follows Zad trivial (by kernel_rfl)
def aw150:Fact:=⟨71,[(.int .i64 3),(.int .i64 13)],(.int .i64 4),none⟩
theorem ZzA:Zai Try.prog aw150.f aw150.args aw150.r aw150.fr:=Zab (n:=100000) (l:=[]) follows Zad trivial (by kernel_rfl)
def aw151:Fact:=⟨71,[(.int .i64 3),(.int .i64 14)],(.int .i64 1),none⟩
theorem Zrc:Zai Try.prog aw151.f aw151.args aw151.r aw151.fr:=Zab (n:=100000) (l:=[]) follows Zad trivial (by kernel_rfl)
def aw152:Fact:=⟨128,[(.int .i64 3)],(.int .i64 14),none⟩
theorem Zyb:Zai Try.prog aw152.f aw152.args aw152.r aw152.fr:=Zab (n:=100000) (l:=[aw139,aw75,aw140,aw141,aw142,aw143,aw144,aw145,aw146,aw147,aw148,aw149,aw150,aw151]) follows Zad ⟨Zxg,⟨Zbr,⟨ZzD,⟨ZwG,⟨Zy3,⟨Zxv,⟨Zxu,⟨Zyr,⟨ZyM,⟨Zyv,⟨ZwH,⟨Zyg,⟨ZzA,⟨Zrc,trivial⟩⟩⟩⟩⟩⟩⟩⟩⟩⟩⟩⟩⟩⟩ (by kernel_rfl)
def aw153:Fact:=⟨71,[(.int .i64 11),(.int .i64 14)],(.int .i64 8),none⟩
theorem ZwF:Zai Try.prog aw153.f aw153.args aw153.r aw153.fr:=Zab (n:=100000) (l:=[]) follows Zad trivial (by kernel_rfl)
def aw154:Fact:=⟨71,[(.int .i64 8),(.int .i64 9)],(.int .i64 4),none⟩
theorem ZzK:Zai Try.prog aw154.f aw154.args aw154.r aw154.fr:=Zab (n:=100000) (l:=[]) follows Zad trivial (by kernel_rfl)
def aw155:Fact:=⟨92,[(.agg (.ints .i64 [0,0,0,0,0,0,0,0,0,0,0,0,1,0,0])),(.int .i64 1),(.list (.ints .i64 [13,14]))],(.tup [(.agg (.ints .i64 [0,0,0,0,0,0,0,0,0,0,0,0,1,6,8])),(.bool true)]),none⟩
theorem Zzf:Zai Try.prog aw155.f aw155.args aw155.r aw155.fr:=Zab (n:=100000) (l:=[aw126,aw111,aw113,aw109,aw135,aw134,aw136,aw137,aw110,aw138,aw129,aw152,aw92,aw151,aw153,aw86,aw154]) follows Zad ⟨Zyp,⟨Zru,⟨Zm6,⟨Zm0,⟨Zxj,⟨ZqF,⟨ZwQ,⟨ZxZ,⟨ZrU,⟨ZxY,⟨ZqV,⟨Zyb,⟨Zqm,⟨Zrc,⟨ZwF,⟨Zpe,⟨ZzK,trivial⟩⟩⟩⟩⟩⟩⟩⟩⟩⟩⟩⟩⟩⟩⟩⟩⟩ (by kernel_rfl)
def aw156:Fact:=⟨76,[(.int .i64 1),(.list (.ints .i64 [0,0,0,0,0,0,0,0,0,0,0,0,1]))],(.agg (.ints .i64 [0,0,0,0,0,0,0,0,0,0,0,0,1,6,8])),none⟩
theorem Zzg:Zai Try.prog aw156.f aw156.args aw156.r aw156.fr:=Zab (n:=100000) (l:=[aw155]) follows Zad ⟨Zzf,trivial⟩ (by kernel_rfl)
def aw157:Fact:=⟨62,[],(.agg (.gen [(.int .i64 3),(.list (.gen [(.list (.ints .i64 [0,1])),(.list (.ints .i64 [1,2]))]))])),none⟩
theorem Zza:Zai Try.prog aw157.f aw157.args aw157.r aw157.fr:=Zab (n:=100000) (l:=[]) follows Zad trivial (by kernel_rfl)
def aw158:Fact:=⟨91,[(.int .i64 3),(.int .i64 1),(.int .i64 24)],(.bool true),none⟩
theorem Zzm:Zai Try.prog aw158.f aw158.args aw158.r aw158.fr:=Zab (n:=100000) (l:=[]) follows Zad trivial (by kernel_rfl)
def aw159:Fact:=⟨91,[(.int .i64 0),(.int .i64 0),(.int .i64 2)],(.bool true),none⟩
theorem ZyC:Zai Try.prog aw159.f aw159.args aw159.r aw159.fr:=Zab (n:=100000) (l:=[]) follows Zad trivial (by kernel_rfl)
def aw160:Fact:=⟨85,[(.bool true),(.int .i64 6)],(.int .i64 0),none⟩
theorem Zx5:Zai Try.prog aw160.f aw160.args aw160.r aw160.fr:=Zab (n:=100000) (l:=[]) follows Zad trivial (by kernel_rfl)
def aw161:Fact:=⟨85,[(.bool true),(.int .i64 9)],(.int .i64 0),none⟩
theorem ZyU:Zai Try.prog aw161.f aw161.args aw161.r aw161.fr:=Zab (n:=100000) (l:=[]) follows Zad trivial (by kernel_rfl)
def aw162:Fact:=⟨91,[(.int .i64 1),(.int .i64 0),(.int .i64 2)],(.bool true),none⟩
theorem Zw4:Zai Try.prog aw162.f aw162.args aw162.r aw162.fr:=Zab (n:=100000) (l:=[]) follows Zad trivial (by kernel_rfl)
def aw163:Fact:=⟨91,[(.int .i64 2),(.int .i64 0),(.int .i64 2)],(.bool true),none⟩
theorem ZxP:Zai Try.prog aw163.f aw163.args aw163.r aw163.fr:=Zab (n:=100000) (l:=[]) follows Zad trivial (by kernel_rfl)
def aw164:Fact:=⟨132,[(.agg (.gen [(.int .i64 3),(.list (.gen [(.list (.ints .i64 [0,1])),(.list (.ints .i64 [1,2]))]))]))],(.tup [(.int .i64 0),(.int .i64 0)]),none⟩
theorem Zzu:Zai Try.prog aw164.f aw164.args aw164.r aw164.fr:=Zab (n:=100000) (l:=[aw158,aw9,aw13,aw69,aw159,aw160,aw161,aw162,aw163]) follows Zad ⟨Zzm,⟨Zjt,⟨Zvq,⟨Zm1,⟨ZyC,⟨Zx5,⟨ZyU,⟨Zw4,⟨ZxP,trivial⟩⟩⟩⟩⟩⟩⟩⟩⟩ (by kernel_rfl)
def aw165:Fact:=⟨120,[(.agg (.gen [(.int .i64 3),(.list (.gen [(.list (.ints .i64 [0,1])),(.list (.ints .i64 [1,2]))]))]))],(.int .i64 0),none⟩
theorem ZyN:Zai Try.prog aw165.f aw165.args aw165.r aw165.fr:=Zab (n:=100000) (l:=[aw164]) follows Zad ⟨Zzu,trivial⟩ (by kernel_rfl)
def aw166:Fact:=⟨91,[(.int .i64 1),(.int .i64 0),(.int .i64 1)],(.bool true),none⟩
theorem Zyu:Zai Try.prog aw166.f aw166.args aw166.r aw166.fr:=Zab (n:=100000) (l:=[]) follows Zad trivial (by kernel_rfl)
def aw167:Fact:=⟨111,[(.int .i64 1),(.eptr (.int .i64 0) 0),(.eptr (.int .i64 1) 0)],(.bool false),none⟩
theorem ZzL:Zai Try.prog aw167.f aw167.args aw167.r aw167.fr:=Zab (n:=100000) (l:=[aw166]) follows Zad ⟨Zyu,trivial⟩ (by kernel_rfl)
def aw168:Fact:=⟨91,[(.int .i64 0),(.int .i64 0),(.int .i64 1)],(.bool true),none⟩
theorem Zzo:Zai Try.prog aw168.f aw168.args aw168.r aw168.fr:=Zab (n:=100000) (l:=[]) follows Zad trivial (by kernel_rfl)
def aw169:Fact:=⟨111,[(.int .i64 0),(.eptr (.int .i64 0) 0),(.eptr (.int .i64 1) 0)],(.bool false),none⟩
theorem ZzG:Zai Try.prog aw169.f aw169.args aw169.r aw169.fr:=Zab (n:=100000) (l:=[aw168]) follows Zad ⟨Zzo,trivial⟩ (by kernel_rfl)
def aw170:Fact:=⟨123,[(.list (.ints .i64 [1,0,0])),(.fn 111 [(.eptr (.int .i64 0) 0),(.eptr (.int .i64 1) 0)])],(.int .i64 (-1)),none⟩
theorem Zx9:Zai Try.prog aw170.f aw170.args aw170.r aw170.fr:=Zab (n:=100000) (l:=[aw167,aw169]) follows Zad ⟨ZzL,⟨ZzG,trivial⟩⟩ (by kernel_rfl)
def aw171:Fact:=⟨110,[(.list (.ints .i64 [1,0,0])),(.fn 111 [(.eptr (.int .i64 0) 0),(.eptr (.int .i64 1) 0)])],(.bool false),none⟩
theorem ZzF:Zai Try.prog aw171.f aw171.args aw171.r aw171.fr:=Zab (n:=100000) (l:=[aw170]) follows Zad ⟨Zx9,trivial⟩ (by kernel_rfl)
def aw172:Fact:=⟨70,[(.list (.ints .i64 [1,0,0])),(.int .i64 0),(.int .i64 1)],(.int .i64 0),none⟩
theorem ZxO:Zai Try.prog aw172.f aw172.args aw172.r aw172.fr:=Zab (n:=100000) (l:=[aw171,aw9]) follows Zad ⟨ZzF,⟨Zjt,trivial⟩⟩ (by kernel_rfl)
def aw173:Fact:=⟨103,[(.agg (.gen [(.int .i64 3),(.list (.gen [(.list (.ints .i64 [0,1])),(.list (.ints .i64 [1,2]))]))])),(.list (.ints .i64 [1,0,0]))],(.int .i64 0),none⟩
theorem Zyd:Zai Try.prog aw173.f aw173.args aw173.r aw173.fr:=Zab (n:=100000) (l:=[aw165,aw12,aw172,aw21]) follows Zad ⟨ZyN,⟨Zo9,⟨ZxO,⟨ZtG,trivial⟩⟩⟩⟩ (by kernel_rfl)
def aw174:Fact:=⟨91,[(.int .i64 5),(.int .i64 0),(.int .i64 30)],(.bool true),none⟩
theorem Zxs:Zai Try.prog aw174.f aw174.args aw174.r aw174.fr:=Zab (n:=100000) (l:=[]) follows Zad trivial (by kernel_rfl)
def aw175:Fact:=⟨104,[(.list (.ints .i64 [1,0,0]))],(.row 0 0),(some ⟨3,1,(.ints .i64 [1,0,0])⟩)⟩
theorem ZrZ:Zai Try.prog aw175.f aw175.args aw175.r aw175.fr:=ZjG _ (by decide)
def aw176:Fact:=⟨105,[(.agg (.gen [(.int .i64 3),(.list (.gen [(.list (.ints .i64 [0,1])),(.list (.ints .i64 [1,2]))]))])),(.list (.ints .i64 [1,0,0]))],(.row 0 0),(some ⟨3,1,(.ints .i64 [0])⟩)⟩
theorem Zro:Zai Try.prog aw176.f aw176.args aw176.r aw176.fr:=Zab (n:=100000) (l:=[]) follows Zad trivial (by kernel_rfl)
def aw177:Fact:=⟨133,[(.list (.ints .i64 [0])),(.int .i64 0)],(.int .i64 0),none⟩
theorem ZyD:Zai Try.prog aw177.f aw177.args aw177.r aw177.fr:=Zab (n:=100000) (l:=[]) follows Zad trivial (by kernel_rfl)
def aw178:Fact:=⟨121,[(.list (.ints .i64 [0])),(.int .i64 0)],(.bool true),none⟩
theorem Zw8:Zai Try.prog aw178.f aw178.args aw178.r aw178.fr:=Zab (n:=100000) (l:=[aw177]) follows Zad ⟨ZyD,trivial⟩ (by kernel_rfl)
def aw179:Fact:=⟨133,[(.list (.ints .i64 [0])),(.int .i64 1)],(.int .i64 (-1)),none⟩
theorem Zy9:Zai Try.prog aw179.f aw179.args aw179.r aw179.fr:=Zab (n:=100000) (l:=[]) follows Zad trivial (by kernel_rfl)
def aw180:Fact:=⟨121,[(.list (.ints .i64 [0])),(.int .i64 1)],(.bool false),none⟩
theorem ZxD:Zai Try.prog aw180.f aw180.args aw180.r aw180.fr:=Zab (n:=100000) (l:=[aw179]) follows Zad ⟨Zy9,trivial⟩ (by kernel_rfl)
def aw181:Fact:=⟨106,[(.agg (.gen [(.int .i64 3),(.list (.gen [(.list (.ints .i64 [0,1])),(.list (.ints .i64 [1,2]))]))])),(.list (.ints .i64 [1,0,0]))],(.row 0 0),(some ⟨3,1,(.ints .i64 [0,0,0])⟩)⟩
theorem Zzc:Zai Try.prog aw181.f aw181.args aw181.r aw181.fr:=Zab (n:=100000) (l:=[aw176,aw178,aw180,aw175]) follows Zad ⟨Zro,⟨Zw8,⟨ZxD,⟨ZrZ,trivial⟩⟩⟩⟩ (by kernel_rfl)
def aw182:Fact:=⟨105,[(.agg (.gen [(.int .i64 3),(.list (.gen [(.list (.ints .i64 [0,1])),(.list (.ints .i64 [1,2]))]))])),(.list (.ints .i64 [0,0,0]))], .nils,none⟩
theorem ZxK:Zai Try.prog aw182.f aw182.args aw182.r aw182.fr:=Zab (n:=100000) (l:=[]) follows Zad trivial (by kernel_rfl)
def aw183:Fact:=⟨61,[(.agg (.gen [(.int .i64 3),(.list (.gen [(.list (.ints .i64 [0,1])),(.list (.ints .i64 [1,2]))]))])),(.list (.ints .i64 [1,0,0])),(.int .i64 5)],(.tup [(.row 0 0),(.int .i64 1),(.int .i64 0)]),(some ⟨3,1,(.ints .i64 [0,0,0])⟩)⟩
theorem Zzn:Zai Try.prog aw183.f aw183.args aw183.r aw183.fr:=Zab (n:=100000) (l:=[aw173,aw174,aw9,aw69,aw175,aw176,aw181,aw182]) follows Zad ⟨Zyd,⟨Zxs,⟨Zjt,⟨Zm1,⟨ZrZ,⟨Zro,⟨Zzc,⟨ZxK,trivial⟩⟩⟩⟩⟩⟩⟩⟩ (by kernel_rfl)
def aw184:Fact:=⟨83,[(.list (.ints .i64 [100000])),(.int .i64 4)],(.row 0 0),(some ⟨3,1,(.ints .i64 [100000,100000,100000,100000])⟩)⟩
theorem Zw0:Zai Try.prog aw184.f aw184.args aw184.r aw184.fr:=Zab (n:=100000) (l:=[aw26]) follows Zad ⟨Zwv,trivial⟩ (by kernel_rfl)
def aw185:Fact:=⟨81,[(.int .i64 0),(.int .i64 1),(.eptr (.agg (.gen [(.int .i64 2),(.int .i64 7),(.int .i64 5)])) 0)],(.tup [(.int .i64 2),(.int .i64 2)]),none⟩
theorem ZyQ:Zai Try.prog aw185.f aw185.args aw185.r aw185.fr:=Zab (n:=100000) (l:=[aw47]) follows Zad ⟨ZvK,trivial⟩ (by kernel_rfl)
def aw186:Fact:=⟨81,[(.int .i64 1),(.int .i64 0),(.eptr (.agg (.gen [(.int .i64 2),(.int .i64 7),(.int .i64 5)])) 0)],(.tup [(.int .i64 0),(.int .i64 2)]),none⟩
theorem Zzl:Zai Try.prog aw186.f aw186.args aw186.r aw186.fr:=Zab (n:=100000) (l:=[aw35]) follows Zad ⟨ZuR,trivial⟩ (by kernel_rfl)
def aw187:Fact:=⟨81,[(.int .i64 1),(.int .i64 1),(.eptr (.agg (.gen [(.int .i64 2),(.int .i64 7),(.int .i64 5)])) 0)],(.tup [(.int .i64 2),(.int .i64 0)]),none⟩
theorem Zw7:Zai Try.prog aw187.f aw187.args aw187.r aw187.fr:=Zab (n:=100000) (l:=[aw50]) follows Zad ⟨Zt9,trivial⟩ (by kernel_rfl)
def aw188:Fact:=⟨81,[(.int .i64 2),(.int .i64 0),(.eptr (.agg (.gen [(.int .i64 2),(.int .i64 7),(.int .i64 5)])) 0)],(.tup [(.int .i64 1),(.int .i64 1)]),none⟩
theorem Zw1:Zai Try.prog aw188.f aw188.args aw188.r aw188.fr:=Zab (n:=100000) (l:=[aw39]) follows Zad ⟨ZtN,trivial⟩ (by kernel_rfl)
def aw189:Fact:=⟨81,[(.int .i64 2),(.int .i64 1),(.eptr (.agg (.gen [(.int .i64 2),(.int .i64 7),(.int .i64 5)])) 0)],(.tup [(.int .i64 3),(.int .i64 1)]),none⟩
theorem Zyj:Zai Try.prog aw189.f aw189.args aw189.r aw189.fr:=Zab (n:=100000) (l:=[aw53]) follows Zad ⟨ZtV,trivial⟩ (by kernel_rfl)
def aw190:Fact:=⟨81,[(.int .i64 3),(.int .i64 0),(.eptr (.agg (.gen [(.int .i64 2),(.int .i64 7),(.int .i64 5)])) 0)],(.tup [(.int .i64 1),(.int .i64 1)]),none⟩
theorem ZyJ:Zai Try.prog aw190.f aw190.args aw190.r aw190.fr:=Zab (n:=100000) (l:=[aw42]) follows Zad ⟨Zv3,trivial⟩ (by kernel_rfl)
def aw191:Fact:=⟨81,[(.int .i64 3),(.int .i64 1),(.eptr (.agg (.gen [(.int .i64 2),(.int .i64 7),(.int .i64 5)])) 0)],(.tup [(.int .i64 3),(.int .i64 1)]),none⟩
theorem ZyG:Zai Try.prog aw191.f aw191.args aw191.r aw191.fr:=Zab (n:=100000) (l:=[aw56]) follows Zad ⟨ZvN,trivial⟩ (by kernel_rfl)
def aw192:Fact:=⟨32,[(.agg (.gen [(.int .i64 2),(.int .i64 7),(.int .i64 5)]))],(.tup [(.int .i64 5),(.int .i64 0)]),none⟩
theorem Zzb:Zai Try.prog aw192.f aw192.args aw192.r aw192.fr:=Zab (n:=100000) (l:=[aw11,aw184,aw185,aw186,aw187,aw188,aw189,aw190,aw191]) follows Zad ⟨Zwa,⟨Zw0,⟨ZyQ,⟨Zzl,⟨Zw7,⟨Zw1,⟨Zyj,⟨ZyJ,⟨ZyG,trivial⟩⟩⟩⟩⟩⟩⟩⟩⟩ (by kernel_rfl)
def aw193:Fact:=⟨17,[(.list (.ints .i64 [1,0])),(.list (.ints .i64 [1,0]))],(.bool true),none⟩
theorem Zyq:Zai Try.prog aw193.f aw193.args aw193.r aw193.fr:=Zab (n:=100000) (l:=[]) follows Zad trivial (by kernel_rfl)
def aw194:Fact:=⟨17,[(.list (.ints .i64 [0,0,0])),(.list (.ints .i64 [0,0,0]))],(.bool true),none⟩
theorem ZyH:Zai Try.prog aw194.f aw194.args aw194.r aw194.fr:=Zab (n:=100000) (l:=[]) follows Zad trivial (by kernel_rfl)
def aw195:Fact:=⟨12,[],(.bool true),none⟩
theorem Zy1:Zai Try.prog aw195.f aw195.args aw195.r aw195.fr:=Zab (n:=100000) (l:=[aw0,aw1,aw58,aw59,aw61,aw70,aw69,aw156,aw157,aw183,aw192,aw193,aw194]) follows Zad ⟨ZGl,⟨ZIg,⟨ZEq,⟨ZDT,⟨ZBO,⟨ZC8,⟨Zm1,⟨Zzg,⟨Zza,⟨Zzn,⟨Zzb,⟨Zyq,⟨ZyH,trivial⟩⟩⟩⟩⟩⟩⟩⟩⟩⟩⟩⟩⟩ (by kernel_rfl)
end Go.Proofs.Ytklbmkllepkjcaa
/- Contracts as a list. No condition. -/
namespace Go.Proofs.Ytklbmkllepkjcaa
def blW(m p q:Int)(so:List Int):List Int:=if cdW m p q so=0 then blI m p q so else []
def bvW(m p q:Int)(so:List Int):Int:=if cdW m p q so=0 then bvI m p q so else 0
theorem ZF3{m p q:Int}{so:List Int}(h:cdW m p q so=0):OkC m p q so:=by
 unfold cdW at h
 split at h
 ·contradiction
 ·rename_i h1
  have h1:ZaB m p q=0:=Classical.not_not.1 h1
  have hm:=(Zap h1).1
  exact⟨h1,by rw[←ZAt (by omega)];exact h⟩
theorem ZFc{m p q:Int}{so:List Int} :cdW m p q so=cdE m p q so:=by
 unfold cdW cdE
 split
 ·rfl
 ·rename_i h1
  have h1:ZaB m p q=0:=Classical.not_not.1 h1
  have hm:=(Zap h1).1
  exact ZAt (by omega)
theorem ZCe(m p q:Int)(so:List Int)(hl:so.length≤1000000):Zai Try.prog 13 [.agg (.gen [.int .i64 m, .int .i64 p, .int .i64 q]), .list (.ints .i64 so)] (.tup [.list (.ints .i64 (blW m p q so)), .int .i64 (bvW m p q so), .int .i64 (cdW m p q so)]) Zsv:=by
 refine Zvw (ZBJ m p q so) fun C hC=>Zm8 hC ZKo ZMb ?_
 by_cases h1:ZaB m p q=0
 ·by_cases h2:sfW m so=0
  ·have e1:cdW m p q so=0:=by simp[cdW,h1,h2]
   have ho:=okI_iff.2 (ZF3 e1)
   simp[Zxt,h1,h2,hl,ho,blW,bvW,e1]
   exact⟨_, .same _, .tup ⟨.row _ rfl rfl rfl, .same _ rfl rfl, .same _ rfl rfl,trivial⟩,rfl⟩
  ·have e1:cdW m p q so=sfW m so:=by simp[cdW,h1]
   simp[Zxt,h1,h2,hl,blW,bvW,e1]
   exact⟨_, .same _, .tup ⟨.nil _ rfl, .same _ rfl rfl, .same _ rfl rfl,trivial⟩,rfl⟩
 ·have e1:cdW m p q so=ZaB m p q:=by simp[cdW,h1]
  simp[Zxt,h1,blW,bvW,e1]
  exact⟨_, .same _, .tup ⟨.nil _ rfl, .same _ rfl rfl, .same _ rfl rfl,trivial⟩,rfl⟩
def k13:Ctr:=⟨13,0,fun _ a=>match a with |[.agg (.gen [.int .i64 m, .int .i64 p, .int .i64 q]), .list (.ints .i64 so)]=>some (decide (so.length≤1000000), .tup [.list (.ints .i64 (blW m p q so)), .int .i64 (bvW m p q so), .int .i64 (cdW m p q so)],Zsv) |_=>none⟩
theorem ZHo:k13.OK Try.prog:=fun pa args r fr h=>by
 simp only[k13]at h
 split at h
 ·simp only[Option.some.injEq,Prod.mk.injEq,decide_eq_true_eq]at h
  obtain⟨h0,rfl,rfl⟩:=h
  exact ZCe _ _ _ _ h0
 ·cases h
def k12:Ctr:=⟨12,0,fun _ a=>match a with |[]=>some (true, .bool true,none) |_=>none⟩
theorem ZJ7:k12.OK Try.prog:=fun pa args r fr h=>by
 simp only[k12]at h
 split at h
 ·cases h
  exact Zy1
 ·cases h
def J8:List Ctr:=[k13,k12]++J7
theorem ZNb:Zay Try.prog J8:=⟨ZHo,⟨ZJ7,ZKo⟩⟩
end Go.Proofs.Ytklbmkllepkjcaa
/- Paths of functions, printed by the explorer (Gx). No condition. -/
namespace Go.Proofs.Ytklbmkllepkjcaa
set_option maxRecDepth 100000
set_option linter.unusedVariables false
def ZIK(m g0 g1:Int):AFrame:={ fn:=32,N:=82,env:=[(0,AV.agg (Row.gen [.int .i64 m, .int .i64 g0, .int .i64 g1]))],todo:=[.code a32.code],defs:=[],rnd:=none,ret:=false,res:=[ARes.tmp 2,ARes.tmp 3] }
def ZQk(m g0 g1:Int):List AFrame:=[(ZIK m g0 g1)]
theorem ZCq(m g0 g1:Int):Zaq tab 32 [AV.agg (Row.gen [.int .i64 m, .int .i64 g0, .int .i64 g1])]=some (ZIK m g0 g1):=rfl
def Zgx(m g0 g1 n0 n1:Int)(l2:List Int)(n3 n4:Int):List AFrame:=[{ fn:=32,N:=82,env:=[(5,AV.fn 81 [AV.ptr 32002 0 0 0]),(6,AV.int .i64 n0),(7,AV.row 32027 0),(10,AV.int .i64 n4),(37,AV.int .i64 n1),(38,AV.int .i64 n3)],todo:=.code (ACode.gh [] ZIl)::ZLT,defs:=[],rnd:=none,ret:=false,res:=[ARes.tmp 2,ARes.tmp 3] }]
def ZeV(m g0 g1 n0 n1:Int)(l2:List Int)(n3 n4:Int):Zaa:=[(32002,{ base:=0,blks:=[Blk.row 24 3 (Row.gen [AV.agg (Row.gen [AV.int .i64 m,AV.int .i64 g0,AV.int .i64 g1])])] }),(32027,{ base:=0,blks:=[Blk.row 3 1 (.ints .i64 l2)] })]
abbrev ZlY(m g0 g1 n0 n1:Int)(l2:List Int)(n3 n4:Int):List AFrame×Zaa:=(Zgx m g0 g1 n0 n1 l2 n3 n4,ZeV m g0 g1 n0 n1 l2 n3 n4)
def ZkC(m g0 g1 n0 n1 n3 n5 n6:Int)(l7:List Int):List AFrame:=[{ fn:=32,N:=82,env:=[(5,AV.fn 81 [AV.ptr 32002 0 0 0]),(6,AV.int .i64 n0),(7,AV.row 32027 0),(10,AV.int .i64 n5),(11,AV.int .i64 n6),(37,AV.int .i64 n1),(38,AV.int .i64 n3)],todo:=.code (ACode.gh [] ZJi)::ZMj,defs:=[],rnd:=none,ret:=false,res:=[ARes.tmp 2,ARes.tmp 3] }]
def ZhR(m g0 g1 n0 n1 n3 n5 n6:Int)(l7:List Int):Zaa:=[(32002,{ base:=0,blks:=[Blk.row 24 3 (Row.gen [AV.agg (Row.gen [AV.int .i64 m,AV.int .i64 g0,AV.int .i64 g1])])] }),(32027,{ base:=0,blks:=[Blk.row 3 1 (.ints .i64 l7)] })]
abbrev Zml(m g0 g1 n0 n1 n3 n5 n6:Int)(l7:List Int):List AFrame×Zaa:=(ZkC m g0 g1 n0 n1 n3 n5 n6 l7,ZhR m g0 g1 n0 n1 n3 n5 n6 l7)
def ZgO(m g0 g1 n0 n1 n3 n6 n8 n9:Int)(l10:List Int):List AFrame:=[{ fn:=32,N:=82,env:=[(5,AV.fn 81 [AV.ptr 32002 0 0 0]),(6,AV.int .i64 n0),(7,AV.row 32027 0),(10,AV.int .i64 n8),(11,AV.int .i64 n6),(37,AV.int .i64 n1),(38,AV.int .i64 n3),(45,AV.int .i64 n9)],todo:=.code (ACode.gh [] ZIJ)::ZLs,defs:=[],rnd:=none,ret:=false,res:=[ARes.tmp 2,ARes.tmp 3] }]
def ZeP(m g0 g1 n0 n1 n3 n6 n8 n9:Int)(l10:List Int):Zaa:=[(32002,{ base:=0,blks:=[Blk.row 24 3 (Row.gen [AV.agg (Row.gen [AV.int .i64 m,AV.int .i64 g0,AV.int .i64 g1])])] }),(32027,{ base:=0,blks:=[Blk.row 3 1 (.ints .i64 l10)] })]
abbrev Zg1(m g0 g1 n0 n1 n3 n6 n8 n9:Int)(l10:List Int):List AFrame×Zaa:=(ZgO m g0 g1 n0 n1 n3 n6 n8 n9 l10,ZeP m g0 g1 n0 n1 n3 n6 n8 n9 l10)
def ZFb(A:Ar)(K:KT)(F:FT)(m g0 g1:Int):Prop:=bB (A.not (A.eq (ZaB m g0 g1) 0)) (F (AV.tup [AV.int .i64 0,AV.int .i64 (ZaB m g0 g1)]) (none)) (rB [A.inR .i64 (A.add (A.shl 1 m) 1),Zae (Nat.blt (A.nat (nxS m 0 1)) (A.len (List.replicate (Int.toNat (A.shl 1 m)) 100000))) true,Zae (A.le 0 (nxS m 0 1)) (Nat.blt (A.nat (nxS m 0 1)) (A.len (List.replicate (Int.toNat (A.shl 1 m)) 100000))),A.inR .i64 (A.add (A.nth [oS m g0 0 1,oS m g1 0 1] 0) (A.nth [oS m g0 0 1,oS m g1 0 1] 1)),Nat.blt 1 (A.len [oS m g0 0 1,oS m g1 0 1]),Nat.blt 0 (A.len [oS m g0 0 1,oS m g1 0 1]),Nat.beq (A.len [oS m g0 0 1,oS m g1 0 1]) 2,Nat.blt 0 (A.len [0,0]),decide (ZjQ m g0 g1 0 1=true),decide (ZDY (A.shl 1 m)=true),List.all [AV.int .i64 100000] fun x=>AV.bx x&&Nat.beq (Zag A x) 1,Zae (Zae (A.le 0 m) (Nat.blt (A.nat m) 64)) (A.inR .i64 (A.shl 1 m))] (K (ZlY (m) (g0) (g1) (A.shl 1 m) (A.add (A.shl 1 m) 1) (A.set (List.replicate (Int.toNat (A.shl 1 m)) 100000) (A.nat (nxS m 0 1)) (A.add (A.nth [oS m g0 0 1,oS m g1 0 1] 0) (A.nth [oS m g0 0 1,oS m g1 0 1] 1))) (0) (100000))))
theorem ZLV{A:Ar}{K:KT}{F:FT}{M:MT}{m g0 g1:Int} :Zaj A tab N6 32 K F M (.run 18 (.tf (.run 7 (.fn)) (.run 76 (.hd)))) (ZQk m g0 g1) []=ZFb A K F m g0 g1:=by kernel_rfl
def Zhk(A:Ar)(K:KT)(F:FT)(m g0 g1 n0 n1:Int)(l2:List Int)(n3 n4:Int):Prop:=bB (A.lt n3 n1) (K (Zml (m) (g0) (g1) (n0) (n1) (n3) (n4) (1) (l2))) (F (AV.tup [AV.int .i64 n4,AV.int .i64 0]) (none))
theorem Zlc{A:Ar}{K:KT}{F:FT}{M:MT}{m g0 g1 n0 n1:Int}{l2:List Int}{n3 n4:Int} :Zaj A tab N6 32 K F M (.run 6 (.tf (.run 10 (.hd)) (.run 8 (.fn)))) (Zgx m g0 g1 n0 n1 l2 n3 n4) (ZeV m g0 g1 n0 n1 l2 n3 n4)=Zhk A K F m g0 g1 n0 n1 l2 n3 n4:=by kernel_rfl
def Zhf(A:Ar)(K:KT)(F:FT)(m g0 g1 n0 n1 n3 n5 n6:Int)(l7:List Int):Prop:=bB (A.lt n6 n0) (K (Zg1 (m) (g0) (g1) (n0) (n1) (n3) (n6) (n5) (0) (l7))) (rB [A.inR .i64 (A.add n3 1)] (K (ZlY (m) (g0) (g1) (n0) (n1) (l7) (A.add n3 1) (n5))))
theorem ZlI{A:Ar}{K:KT}{F:FT}{M:MT}{m g0 g1 n0 n1 n3 n5 n6:Int}{l7:List Int} :Zaj A tab N6 32 K F M (.run 8 (.tf (.run 10 (.hd)) (.run 8 (.hd)))) (ZkC m g0 g1 n0 n1 n3 n5 n6 l7) (ZhR m g0 g1 n0 n1 n3 n5 n6 l7)=Zhf A K F m g0 g1 n0 n1 n3 n5 n6 l7:=by kernel_rfl
def Ze4(A:Ar)(K:KT)(F:FT)(m g0 g1 n0 n1 n3 n6 n8 n9:Int)(l10:List Int):Prop:=bB (A.lt n9 2) (rB [A.inR .i64 (A.add (A.nth [oS m g0 n6 n9,oS m g1 n6 n9] 0) (A.nth [oS m g0 n6 n9,oS m g1 n6 n9] 1)),Nat.blt 1 (A.len [oS m g0 n6 n9,oS m g1 n6 n9]),Nat.blt 0 (A.len [oS m g0 n6 n9,oS m g1 n6 n9]),Nat.beq (A.len [oS m g0 n6 n9,oS m g1 n6 n9]) 2,Nat.blt 0 (A.len [0,0]),decide (ZjQ m g0 g1 n6 n9=true)] (bB (A.eq (nxS m n6 n9) 0) (rB [A.inR .i64 (A.add n9 1),A.inR .i64 (A.add (A.nth l10 (A.nat n6)) (A.add (A.nth [oS m g0 n6 n9,oS m g1 n6 n9] 0) (A.nth [oS m g0 n6 n9,oS m g1 n6 n9] 1))),Zae (Nat.blt (A.nat n6) (A.len l10)) true,Zae (A.le 0 n6) (Nat.blt (A.nat n6) (A.len l10))] (K (Zg1 (m) (g0) (g1) (n0) (n1) (n3) (n6) (A.min n8 (A.add (A.nth l10 (A.nat n6)) (A.add (A.nth [oS m g0 n6 n9,oS m g1 n6 n9] 0) (A.nth [oS m g0 n6 n9,oS m g1 n6 n9] 1)))) (A.add n9 1) (l10)))) (rB [A.inR .i64 (A.add n9 1),Zae (Nat.blt (A.nat (nxS m n6 n9)) (A.len l10)) true,Zae (A.le 0 (nxS m n6 n9)) (Nat.blt (A.nat (nxS m n6 n9)) (A.len l10)),A.inR .i64 (A.add (A.nth l10 (A.nat n6)) (A.add (A.nth [oS m g0 n6 n9,oS m g1 n6 n9] 0) (A.nth [oS m g0 n6 n9,oS m g1 n6 n9] 1))),Zae (Nat.blt (A.nat n6) (A.len l10)) true,Zae (A.le 0 n6) (Nat.blt (A.nat n6) (A.len l10)),Zae (Nat.blt (A.nat (nxS m n6 n9)) (A.len l10)) true,Zae (A.le 0 (nxS m n6 n9)) (Nat.blt (A.nat (nxS m n6 n9)) (A.len l10))] (K (Zg1 (m) (g0) (g1) (n0) (n1) (n3) (n6) (n8) (A.add n9 1) (A.set l10 (A.nat (nxS m n6 n9)) (A.min (A.nth l10 (A.nat (nxS m n6 n9))) (A.add (A.nth l10 (A.nat n6)) (A.add (A.nth [oS m g0 n6 n9,oS m g1 n6 n9] 0) (A.nth [oS m g0 n6 n9,oS m g1 n6 n9] 1)))))))))) (rB [A.inR .i64 (A.add n6 1)] (K (Zml (m) (g0) (g1) (n0) (n1) (n3) (n8) (A.add n6 1) (l10))))
theorem ZkW{A:Ar}{K:KT}{F:FT}{M:MT}{m g0 g1 n0 n1 n3 n6 n8 n9:Int}{l10:List Int} :Zaj A tab N6 32 K F M (.run 6 (.tf (.run 51 (.tf (.run 20 (.hd)) (.run 9 (.hd)))) (.run 9 (.hd)))) (ZgO m g0 g1 n0 n1 n3 n6 n8 n9 l10) (ZeP m g0 g1 n0 n1 n3 n6 n8 n9 l10)=Ze4 A K F m g0 g1 n0 n1 n3 n6 n8 n9 l10:=by kernel_rfl
end Go.Proofs.Ytklbmkllepkjcaa
