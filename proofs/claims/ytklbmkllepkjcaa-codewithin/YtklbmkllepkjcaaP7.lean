/- Contracts as a list. No condition. -/
import Derived.Test.YtklbmkllepkjcaaSq
import Derived.KernelRfl
namespace Go.Proofs.Ytklbmkllepkjcaa
theorem Zjl{m p q:Int}{so:List Int}{t:Nat}(h:t≤Zac so):(rw2 (Zac so) (gB m p q so 0 (dpP m p q so (Zac so)))).getD (t+1) []=wR (dpP m p q so (Zac so-t)):=by
 rw[Zkl _ h,gB]
 by_cases h0:0<t
 ·rw[if_pos h0]
 ·rw[if_neg h0,if_pos (by omega),show t=0 by omega];rfl
def ZhK(m p q:Int)(so:List Int)(t st:Nat)(b:Int):Prop:=(dpP m p q so (Zac so-t-1)).getD (nxS m st b).toNat 0+gnI m p q so t st b=(dpP m p q so (Zac so-t)).getD st 0
section
variable {C:Ctx}(hC:C.P=Try.prog)(m p q:Int)(so:List Int)(h:OkC m p q so)
include hC h
theorem Z1(t s st:Nat)(ht:t<ZbF m so)(hs:s<stS m)(hst:st<stS m)(l:List Int)(b8 b9:Bool)(j j2:Nat)(b:Int)(hb:b=0∨b=1)(hne:s=st→¬ZhK m p q so t st b)(r:AV)(fr:Option Fresh)
 (hn:Ev C (ZbO m p q so (reT (Zac so)) (rw2 (Zac so) (gB m p q so 0 (dpP m p q so (Zac so)))) (Zcs m so) j t st l (stN m) b8 b9 j2 s (b+1)) (Zbq m p q so (reT (Zac so)) (rw2 (Zac so) (gB m p q so 0 (dpP m p q so (Zac so)))) (Zcs m so) j t st l (stN m) b8 b9 j2 s (b+1)) (Zb1 65 r fr)):
 Ev C (ZbO m p q so (reT (Zac so)) (rw2 (Zac so) (gB m p q so 0 (dpP m p q so (Zac so)))) (Zcs m so) j t st l (stN m) b8 b9 j2 s b) (Zbq m p q so (reT (Zac so)) (rw2 (Zac so) (gB m p q so 0 (dpP m p q so (Zac so)))) (Zcs m so) j t st l (stN m) b8 b9 j2 s b) (Zb1 65 r fr):=by
 obtain⟨hg,_,hl2,hl3⟩:=h.soft
 have hlen:2*Zac so≤so.length:=by unfold Zac;omega
 have hm:=(Zan h.cv).1
 have hbb:ZbF m so≤Zac so:=by unfold ZbF Zac;omega
 have hT:Zac so≤303:=by unfold Zac;omega
 have e1:(reT (Zac so)).getD t 0=t+1:=ZcT (by omega)
 have e2:(reT (Zac so)).getD (t+1) 0=t+2:=ZcT (by omega)
 have e3:(rw2 (Zac so) (gB m p q so 0 (dpP m p q so (Zac so)))).getD (t+2) []=wR (dpP m p q so (Zac so-t-1)):=Zjl (t:=t+1) (by omega)
 have e4:(rw2 (Zac so) (gB m p q so 0 (dpP m p q so (Zac so)))).getD (t+1) []=wR (dpP m p q so (Zac so-t)):=Zjl (by omega)
 have e5:=ZhX (Zac so) (gB m p q so 0 (dpP m p q so (Zac so)))
 have e7:=Zgy (Zac so)
 have hdl:=Zey m p q so (Zac so-t-1)
 have hdl2:=Zey m p q so (Zac so-t)
 obtain⟨s1,s2,s3⟩:=Zbd h hs hb
 have k1:(2*(t:Int)).toNat=2*t:=by omega
 have k2:(2*(t:Int)+1).toNat=2*t+1:=by omega
 have hco:=Zp4 so t (ZcC m p s b) (ZcC m q s b)
 have hgl:=ZeW (m:=m) (p:=p) (q:=q) hg t s b
 have a1:=ZcV hg (2*t)
 have a2:=ZcV hg (2*t+1)
 have hD:=ZcG h (n:=Zac so-t-1) (by omega) s3
 have hX:=ZcG h (n:=Zac so-t) (by omega) hst
 have hbt:t<ZbF m so↔¬Zcs m so≤t:=by unfold ZbF Zcs ZaB;omega
 have h108:ZqX m so=true:=decide_eq_true (by omega)
 have hb2:=hbt.1 ht
 unfold ZhK gnI at hne
 unfold gnI at hgl
 have f1:(wR (dpP m p q so (Zac so-t))).getD st 0=wN ((dpP m p q so (Zac so-t)).getD st 0):=Zf6 _ (by omega)
 have f2:(wR (dpP m p q so (Zac so-t-1))).getD (nxS m s b).toNat 0=wN ((dpP m p q so (Zac so-t-1)).getD (nxS m s b).toNat 0):=Zf6 _ (by omega)
 have f3:std.fadd .f32 (wN ((dpP m p q so (Zac so-t-1)).getD (nxS m s b).toNat 0)) (std.i2f .f32 (gaI so t (oS m p s b) (oS m q s b)))=some (wN ((dpP m p q so (Zac so-t-1)).getD (nxS m s b).toNat 0+gaI so t (oS m p s b) (oS m q s b))):=ZkP (by omega) (by omega)
 have f4:=Ziu (a:=(dpP m p q so (Zac so-t-1)).getD (nxS m s b).toNat 0+gaI so t (oS m p s b) (oS m q s b)) (b:=(dpP m p q so (Zac so-t)).getD st 0) (by omega) (by omega)
 have f6:=Zfj (dpP m p q so (Zac so-t))
 have f7:=Zfj (dpP m p q so (Zac so-t-1))
 have g1:t<Zac so:=by omega
 have g2:t<Zac so+1:=by omega
 have g3:(0:Int)≤(t:Int)+1:=by omega
 have g4: -9223372036854775808≤(t:Int)+1:=by omega
 have g5:(t:Int)+1≤9223372036854775807:=by omega
 have g6:∀x,asB true x=x:=fun x=>rfl
 refine tgo hC ZcX ZdU ?_
 by_cases hq:s=st
 ·subst hq
  have f8:=hne rfl
  have f9:(compare ((dpP m p q so (Zac so-t-1)).getD (nxS m s b).toNat 0+gaI so t (oS m p s b) (oS m q s b)) ((dpP m p q so (Zac so-t)).getD s 0)==Ordering.eq)=false:=by
   rw[beq_eq_false_iff_ne];exact fun e=>f8 (Int.compare_eq_eq.1 e)
  rcases hb with rfl |rfl
  ·simp[-List.getD_eq_getElem?_getD,List.getD_cons_zero,List.getD_cons_succ,Za4,e1,e2,e3,e4,e5,e7,s1,s2,s3,k1,k2,hco,hdl,hdl2,hs,h108,hb2,f1,f2,f3,f4,f6,f7,f9,g1,g2,g3,g4,g5,g6]at hn⊢
   exact⟨by omega,hn⟩
  ·simp[-List.getD_eq_getElem?_getD,List.getD_cons_zero,List.getD_cons_succ,Za4,e1,e2,e3,e4,e5,e7,s1,s2,s3,k1,k2,hco,hdl,hdl2,hs,h108,hb2,f1,f2,f3,f4,f6,f7,f9,g1,g2,g3,g4,g5,g6]at hn⊢
   exact⟨by omega,hn⟩
 ·have hq':¬(s:Int)=st:=by omega
  rcases hb with rfl |rfl
  ·simp[-List.getD_eq_getElem?_getD,List.getD_cons_zero,List.getD_cons_succ,Za4,e1,e2,e3,e4,e5,e7,s1,s2,s3,k1,k2,hco,hdl,hdl2,h108,hb2,f1,f2,f3,f4,f6,f7,hst,hq',g1,g2,g3,g4,g5]at hn⊢
   exact⟨by omega,hn⟩
  ·simp[-List.getD_eq_getElem?_getD,List.getD_cons_zero,List.getD_cons_succ,Za4,e1,e2,e3,e4,e5,e7,s1,s2,s3,k1,k2,hco,hdl,hdl2,h108,hb2,f1,f2,f3,f4,f6,f7,hst,hq',g1,g2,g3,g4,g5]at hn⊢
   exact⟨by omega,hn⟩
theorem Z1e(t st:Nat)(ht:t<ZbF m so)(hs:st<stS m)(l:List Int)(hl:l.length≤1000)(b8 b9:Bool)(j j2:Nat)(b:Int)(hb:b=0∨b=1)(he:ZhK m p q so t st b)(r:AV)(fr:Option Fresh)
 (hn:Ev C (ZbE m p q so (reT (Zac so)) (rw2 (Zac so) (gB m p q so 0 (dpP m p q so (Zac so)))) (Zcs m so) j ((t+1:Nat):Int) j2 (nxS m st b) (l++[b])) (Zbj m p q so (reT (Zac so)) (rw2 (Zac so) (gB m p q so 0 (dpP m p q so (Zac so)))) (Zcs m so) j ((t+1:Nat):Int) j2 (nxS m st b) (l++[b])) (Zb1 65 r fr)):
 Ev C (ZbO m p q so (reT (Zac so)) (rw2 (Zac so) (gB m p q so 0 (dpP m p q so (Zac so)))) (Zcs m so) j t st l (stN m) b8 b9 j2 st b) (Zbq m p q so (reT (Zac so)) (rw2 (Zac so) (gB m p q so 0 (dpP m p q so (Zac so)))) (Zcs m so) j t st l (stN m) b8 b9 j2 st b) (Zb1 65 r fr):=by
 obtain⟨hg,_,hl2,hl3⟩:=h.soft
 have hlen:2*Zac so≤so.length:=by unfold Zac;omega
 have hm:=(Zan h.cv).1
 have hbb:ZbF m so≤Zac so:=by unfold ZbF Zac;omega
 have hT:Zac so≤303:=by unfold Zac;omega
 have e1:(reT (Zac so)).getD t 0=t+1:=ZcT (by omega)
 have e2:(reT (Zac so)).getD (t+1) 0=t+2:=ZcT (by omega)
 have e3:(rw2 (Zac so) (gB m p q so 0 (dpP m p q so (Zac so)))).getD (t+2) []=wR (dpP m p q so (Zac so-t-1)):=Zjl (t:=t+1) (by omega)
 have e4:(rw2 (Zac so) (gB m p q so 0 (dpP m p q so (Zac so)))).getD (t+1) []=wR (dpP m p q so (Zac so-t)):=Zjl (by omega)
 have e5:=ZhX (Zac so) (gB m p q so 0 (dpP m p q so (Zac so)))
 have e7:=Zgy (Zac so)
 have hdl:=Zey m p q so (Zac so-t-1)
 have hdl2:=Zey m p q so (Zac so-t)
 obtain⟨s1,s2,s3⟩:=Zbd h hs hb
 have k1:(2*(t:Int)).toNat=2*t:=by omega
 have k2:(2*(t:Int)+1).toNat=2*t+1:=by omega
 have hco:=Zp4 so t (ZcC m p st b) (ZcC m q st b)
 have hgl:=ZeW (m:=m) (p:=p) (q:=q) hg t st b
 have a1:=ZcV hg (2*t)
 have a2:=ZcV hg (2*t+1)
 have hD:=ZcG h (n:=Zac so-t-1) (by omega) s3
 have hX:=ZcG h (n:=Zac so-t) (by omega) hs
 have hbt:t<ZbF m so↔¬Zcs m so≤t:=by unfold ZbF Zcs ZaB;omega
 have h108:ZqX m so=true:=decide_eq_true (by omega)
 have hb2:=hbt.1 ht
 unfold ZhK gnI at he
 unfold gnI at hgl
 have f1:(wR (dpP m p q so (Zac so-t))).getD st 0=wN ((dpP m p q so (Zac so-t)).getD st 0):=Zf6 _ (by omega)
 have f2:(wR (dpP m p q so (Zac so-t-1))).getD (nxS m st b).toNat 0=wN ((dpP m p q so (Zac so-t-1)).getD (nxS m st b).toNat 0):=Zf6 _ (by omega)
 have f3:std.fadd .f32 (wN ((dpP m p q so (Zac so-t-1)).getD (nxS m st b).toNat 0)) (std.i2f .f32 (gaI so t (oS m p st b) (oS m q st b)))=some (wN ((dpP m p q so (Zac so-t)).getD st 0)):=by rw[←he];exact ZkP (by omega) (by omega)
 have f4:=Ziu (a:=(dpP m p q so (Zac so-t)).getD st 0) (b:=(dpP m p q so (Zac so-t)).getD st 0) (by omega) (by omega)
 have f6:=Zfj (dpP m p q so (Zac so-t))
 have f7:=Zfj (dpP m p q so (Zac so-t-1))
 have g1:t<Zac so:=by omega
 have g2:t<Zac so+1:=by omega
 have g3:(0:Int)≤(t:Int)+1:=by omega
 have g4: -9223372036854775808≤(t:Int)+1:=by omega
 have g5:(t:Int)+1≤9223372036854775807:=by omega
 have g6:∀x,asB true x=x:=fun x=>rfl
 refine tgo hC ZcX ZdU ?_
 rcases hb with rfl |rfl
 ·simp[-List.getD_eq_getElem?_getD,List.getD_cons_zero,List.getD_cons_succ,Za4,e1,e2,e3,e4,e5,e7,s1,s2,s3,k1,k2,hco,hdl,hdl2,hs,h108,hb2,f1,f2,f3,f4,f6,f7,g1,g2,g3,g4,g5,g6,AV.bx,Zam]at hn⊢
  exact⟨by omega,by omega,hn⟩
 ·simp[-List.getD_eq_getElem?_getD,List.getD_cons_zero,List.getD_cons_succ,Za4,e1,e2,e3,e4,e5,e7,s1,s2,s3,k1,k2,hco,hdl,hdl2,hs,h108,hb2,f1,f2,f3,f4,f6,f7,g1,g2,g3,g4,g5,g6,AV.bx,Zam]at hn⊢
  exact⟨by omega,by omega,hn⟩
theorem Z0(t st:Nat)(ht:t<ZbF m so)(hst:st<stS m)(l:List Int)(hl:l.length≤1000)(b8 b9:Bool)(j j2:Nat)(r:AV)(fr:Option Fresh)
 (hn0:ZhK m p q so t st 0→Ev C (ZbE m p q so (reT (Zac so)) (rw2 (Zac so) (gB m p q so 0 (dpP m p q so (Zac so)))) (Zcs m so) j ((t+1:Nat):Int) j2 (nxS m st 0) (l++[0])) (Zbj m p q so (reT (Zac so)) (rw2 (Zac so) (gB m p q so 0 (dpP m p q so (Zac so)))) (Zcs m so) j ((t+1:Nat):Int) j2 (nxS m st 0) (l++[0])) (Zb1 65 r fr))
 (hn1:¬ZhK m p q so t st 0→ZhK m p q so t st 1→Ev C (ZbE m p q so (reT (Zac so)) (rw2 (Zac so) (gB m p q so 0 (dpP m p q so (Zac so)))) (Zcs m so) j ((t+1:Nat):Int) j2 (nxS m st 1) (l++[1])) (Zbj m p q so (reT (Zac so)) (rw2 (Zac so) (gB m p q so 0 (dpP m p q so (Zac so)))) (Zcs m so) j ((t+1:Nat):Int) j2 (nxS m st 1) (l++[1])) (Zb1 65 r fr))
 (hn2:¬ZhK m p q so t st 0→¬ZhK m p q so t st 1→Ev C (ZbE m p q so (reT (Zac so)) (rw2 (Zac so) (gB m p q so 0 (dpP m p q so (Zac so)))) (Zcs m so) j ((t+1:Nat):Int) j2 st l) (Zbj m p q so (reT (Zac so)) (rw2 (Zac so) (gB m p q so 0 (dpP m p q so (Zac so)))) (Zcs m so) j ((t+1:Nat):Int) j2 st l) (Zb1 65 r fr)):
 ∀k s:Nat,s+k=stS m→(s≤st∨¬ZhK m p q so t st 0∧¬ZhK m p q so t st 1)→
 Ev C (Zfe m p q so (reT (Zac so)) (rw2 (Zac so) (gB m p q so 0 (dpP m p q so (Zac so)))) (Zcs m so) j t st l (stN m) b8 b9 j2 s) (Zdz m p q so (reT (Zac so)) (rw2 (Zac so) (gB m p q so 0 (dpP m p q so (Zac so)))) (Zcs m so) j t st l (stN m) b8 b9 j2 s) (Zb1 65 r fr):=by
 have hm:=(Zan h.cv).1
 have h2:=Za5 hm
 obtain⟨hg,_,hl2,hl3⟩:=h.soft
 have hT:ZbF m so≤303:=by unfold ZbF;omega
 intro k
 induction k with
 |zero=>
  intro s hs hq
  have e9:(s:Int)=stN m:=by omega
  obtain⟨q1,q2⟩:¬ZhK m p q so t st 0∧¬ZhK m p q so t st 1:=by
   rcases hq with hq |hq
   ·omega
   ·exact hq
  have i:=hn2 q1 q2
  refine tgo hC ZcX ZgC ?_
  simp[Zdw,e9]at i⊢
  exact⟨by omega,i⟩
 |succ k ih=>
  intro s hs hq
  have e9:(s:Int)<stN m:=by omega
  have hx:∀i:s+1≤st∨¬ZhK m p q so t st 0∧¬ZhK m p q so t st 1,Ev C (ZbO m p q so (reT (Zac so)) (rw2 (Zac so) (gB m p q so 0 (dpP m p q so (Zac so)))) (Zcs m so) j t st l (stN m) b8 b9 j2 s 2) (Zbq m p q so (reT (Zac so)) (rw2 (Zac so) (gB m p q so 0 (dpP m p q so (Zac so)))) (Zcs m so) j t st l (stN m) b8 b9 j2 s 2) (Zb1 65 r fr):=fun i=>by
   have ih':=ih (s+1) (by omega) i
   refine tgo hC ZcX ZdU ?_
   simp[Za4]at ih'⊢
   exact⟨by omega,ih'⟩
  refine tgo hC ZcX ZgC ?_
  simp only[Zdw,ZAJ,ZDx,e9,decide_true,if_true]
  show Ev C _ _ _
  by_cases hs2:s=st
  ·subst hs2
   by_cases q0:ZhK m p q so t s 0
   ·exact Z1e hC m p q so h t s ht hst l hl _ _ _ _ 0 (Or.inl rfl) q0 _ _ (hn0 q0)
   ·refine Z1 hC m p q so h t s s ht hst hst l _ _ _ _ 0 (Or.inl rfl) (fun _=>q0) _ _ ?_
    by_cases q1:ZhK m p q so t s 1
    ·exact Z1e hC m p q so h t s ht hst l hl _ _ _ _ 1 (Or.inr rfl) q1 _ _ (hn1 q0 q1)
    ·exact Z1 hC m p q so h t s s ht hst hst l _ _ _ _ 1 (Or.inr rfl) (fun _=>q1) _ _ (hx (Or.inr ⟨q0,q1⟩))
  ·refine Z1 hC m p q so h t s st ht (by omega) hst l _ _ _ _ 0 (Or.inl rfl) (fun e=>absurd e hs2) _ _ ?_
   refine Z1 hC m p q so h t s st ht (by omega) hst l _ _ _ _ 1 (Or.inr rfl) (fun e=>absurd e hs2) _ _ (hx ?_)
   rcases hq with hq |hq
   ·exact Or.inl (by omega)
   ·exact Or.inr hq
theorem Z65:∀k t:Nat,t+k=ZbF m so→∀(st:Nat) (l:List Int) (j j2:Nat),st<stS m→l.length+k≤1000→
 Ev C (ZbE m p q so (reT (Zac so)) (rw2 (Zac so) (gB m p q so 0 (dpP m p q so (Zac so)))) (Zcs m so) j t j2 st l) (Zbj m p q so (reT (Zac so)) (rw2 (Zac so) (gB m p q so 0 (dpP m p q so (Zac so)))) (Zcs m so) j t j2 st l) (Zb1 65 (.tup [.row 0 0, .int .i64 ((dpP m p q so (Zac so)).getD 0 0)]) (some ⟨3,1, .ints .i64 (l++tbP m p q so k t st)⟩)):=by
 have hm:=(Zan h.cv).1
 have h2:=Za5 hm
 have hmm:ZkA m=true:=decide_eq_true (by omega)
 obtain⟨hg,_,hl2,hl3⟩:=h.soft
 have hT:ZbF m so≤Zac so∧Zac so≤303:=by unfold ZbF Zac;omega
 intro k
 induction k with
 |zero=>
  intro t ht st l j j2 hst hl
  have hbt:¬(t:Int)<Zcs m so:=by unfold ZbF at ht;unfold Zcs ZaB;omega
  have e1:(reT (Zac so)).getD 0 0=1:=by rw[ZcT (by omega)]
  have e3:(rw2 (Zac so) (gB m p q so 0 (dpP m p q so (Zac so)))).getD 1 []=wR (dpP m p q so (Zac so)):=Zjl (t:=0) (by omega)
  have e5:=ZhX (Zac so) (gB m p q so 0 (dpP m p q so (Zac so)))
  have e7:=Zgy (Zac so)
  have hdl:=Zey m p q so (Zac so)
  have hX:=ZcG h (n:=Zac so) (by omega) (show 0<stS m by omega)
  have f1:(wR (dpP m p q so (Zac so))).getD 0 0=wN ((dpP m p q so (Zac so)).getD 0 0):=Zf6 _ (by omega)
  have f2:=Zyp (n:=(dpP m p q so (Zac so)).getD 0 0) (by omega)
  have f6:=Zfj (dpP m p q so (Zac so))
  refine tgo hC ZcX Zhl ?_
  simp[-List.getD_eq_getElem?_getD,Ze3,hbt,e1,e3,e5,e7,hdl,f1,f2,f6,tbP]
  omega
 |succ k ih=>
  intro t ht st l j j2 hst hl
  have hbt:(t:Int)<Zcs m so:=by unfold ZbF at ht;unfold Zcs ZaB;omega
  refine tgo hC ZcX Zhl ?_
  have i:=Z0 hC m p q so h t st (by omega) hst l (by omega) true true j (j2+1) (.tup [.row 0 0, .int .i64 ((dpP m p q so (Zac so)).getD 0 0)]) (some ⟨3,1, .ints .i64 (l++tbP m p q so (k+1) t st)⟩) (fun q0=>by
   obtain⟨s1,s2,s3⟩:=Zbd h hst (b:=0) (Or.inl rfl)
   have:=ih (t+1) (by omega) (nxS m st 0).toNat (l++[0]) j (j2+1) s3 (by simp;omega)
   rw[Int.toNat_of_nonneg s2,List.append_assoc]at this
   unfold ZhK at q0
   rw[tbP,if_pos q0]
   exact this) (fun q0 q1=>by
   obtain⟨s1,s2,s3⟩:=Zbd h hst (b:=1) (Or.inr rfl)
   have:=ih (t+1) (by omega) (nxS m st 1).toNat (l++[1]) j (j2+1) s3 (by simp;omega)
   rw[Int.toNat_of_nonneg s2,List.append_assoc]at this
   unfold ZhK at q0 q1
   rw[tbP,if_neg q0,if_pos q1]
   exact this) (fun q0 q1=>by
   have:=ih (t+1) (by omega) st l j (j2+1) hst (by omega)
   unfold ZhK at q0 q1
   rw[tbP,if_neg q0,if_neg q1]
   exact this) (stS m) 0 (by omega) (Or.inl (Nat.zero_le _))
  simp[Ze3,hbt,hmm]at i⊢
  exact i
end
theorem ZxO{m:Int} :wR (ZjK m)=List.replicate (stN m).toNat 3351465984:=by
 unfold wR ZjK
 rw[List.map_replicate,←ZxW];rfl
section
variable {C:Ctx}(hC:C.P=Try.prog)(m p q:Int)(so:List Int)(h:OkC m p q so)
include hC h
theorem ZCH:∀k t:Nat,t+k=Zac so+1→
 Ev C (ZeT m p q so ((Zac so+1:Nat):Int) (fT (Zac so) t) t ([]::List.replicate t (wR (ZjK m)))) (ZdF m p q so ((Zac so+1:Nat):Int) (fT (Zac so) t) t ([]::List.replicate t (wR (ZjK m)))) (Zb1 65 (.tup [.row 0 0, .int .i64 ((dpP m p q so (Zac so)).getD 0 0)]) (some ⟨3,1, .ints .i64 (tbP m p q so (ZbF m so) 0 0)⟩)):=by
 have hm:=(Zan h.cv).1
 have h2:=Za5 hm
 have hmm:ZkA m=true:=decide_eq_true (by omega)
 have hst:Zt5 (stN m)=true:=decide_eq_true (by unfold stN at h2 ⊢;omega)
 obtain⟨hg,_,hl2,hl3⟩:=h.soft
 have hT:Zac so≤303:=by unfold Zac;omega
 have hbT:ZbF m so≤303:=by unfold ZbF;omega
 have hTT:ZaB so=(Zac so:Int):=rfl
 intro k
 induction k with
 |zero=>
  intro t ht
  refine tgo hC ZcX ZfY ?_
  have i:=ZCu hC m p q so h _ _ (fun j=>Z65 hC m p q so h (ZbF m so) 0 (by omega) 0 [] j 0 (by omega) (by simp;omega)) (Zac so) 0 (Nat.le_refl _)
  have e9:t=Zac so+1:=by omega
  subst e9
  have e1:(reT (Zac so)).getD (Zac so) 0=Zac so+1:=ZcT (by omega)
  have e2:(([]:List Nat)::List.replicate (Zac so+1) (wR (ZjK m))).getD (Zac so+1) []=wR (ZjK m):=by rw[List.getD_cons_succ,List.getD_eq_getElem?_getD,List.getElem?_replicate,if_pos (by omega)];rfl
  have e0:dpP m p q so 0=(ZjK m).set 0 0:=by
   apply List.ext_getElem?
   intro i
   unfold dpP ZjK
   rw[List.getElem?_set,List.getElem?_map,List.getElem?_replicate,List.length_replicate]
   by_cases hi:i<stS m
   ·rw[List.getElem?_range hi]
    by_cases h0:0=i
    ·subst h0;simp[hi]
    ·simp[hi,h0,show ¬i=0 by omega]
   ·rw[List.getElem?_eq_none (by simp;omega)];simp[hi,show ¬0=i by omega]
  have e3:(([]:List Nat)::List.replicate (Zac so+1) (wR (ZjK m))).set (Zac so+1) ((wR (ZjK m)).set 0 0)=rw2 (Zac so) (gB m p q so (Zac so) (dpP m p q so (Zac so-Zac so))):=by
   rw[Nat.sub_self,e0]
   unfold rw2
   rw[List.set_cons_succ]
   congr 1
   apply List.ext_getElem?
   intro i
   rw[List.getElem?_set,List.getElem?_map,List.getElem?_replicate,List.length_replicate]
   by_cases hi:i<Zac so+1
   ·rw[List.getElem?_range hi]
    by_cases h0:Zac so=i
    ·subst h0;simp[gB];rw[←Zo3,←Zup]
    ·simp[h0,hi,gB,show ¬i=Zac so from fun e=>h0 e.symm,show ¬Zac so<i by omega]
   ·rw[List.getElem?_eq_none (by simp;omega)]
    simp[hi,show ¬Zac so=i by omega]
  have e4:(ZjK m).length=stS m:=by simp[ZjK]
  have e4w:=Zfj (ZjK m)
  have e5:=Zgy (Zac so)
  have e6:=Zwo (Zac so)
  rw[←e3]at i
  simp[-List.getD_eq_getElem?_getD, -List.set_cons_succ,ZdR,e1,e2,e4,e4w,e5,e6,hTT]at i⊢
  refine⟨by omega,?_⟩
  exact i
 |succ k ih=>
  intro t ht
  refine tgo hC ZcX ZfY ?_
  have i:=ih (t+1) (by omega)
  rw[←ZwL (by omega),List.replicate_succ',←List.cons_append]at i
  have e9:(t:Int)<(Zac so:Int)+1:=by omega
  have e9n:t<Zac so+1:=by omega
  have e5:=ZxI (Zac so) t
  have e6:=ZxO (m:=m)
  simp[ZdR,hmm,hst,e5,e9,e9n,AV.bx,Zam]at i⊢
  rw[←e6]
  exact⟨by omega,i⟩
end
theorem ZtA{m p q:Int}{so:List Int}(h:OkC m p q so):Zac so≤303∧so.length≤1000000:=by
 have hm:=(Zan h.cv).1
 obtain⟨hg,_,hl2,hl3⟩:=h.soft
 unfold Zac;omega
theorem Zoe(m p q:Int)(so:List Int)(h:OkC m p q so):Zah Try.prog 65 [.agg (.gen [.int .i64 m, .int .i64 p, .int .i64 q, .list (.ints .i64 so)])] (.tup [.row 0 0, .int .i64 (bvI m p q so)]) (some ⟨3,1, .ints .i64 (blI m p q so)⟩):=by
 have hT:=ZtA h
 have hTT:ZaB so=(Zac so:Int):=rfl
 obtain⟨w1,w2⟩:=Zig h
 have e2:((Zac so:Int)+1).toNat=Zac so+1:=by omega
 refine start (Zvi m p q so) fun C hC=>tgo hC ZcX ZAu ?_
 have i:=ZCH hC m p q so h (Zac so+1) 0 (by omega)
 rw[w1,w2,Zu8]at i
 simp[ZvK,hTT,e2]at i⊢
 exact⟨by omega,i⟩
def k65:Ctr:=⟨65,0,fun _ a=>match a with |[.agg (.gen [.int .i64 m, .int .i64 p, .int .i64 q, .list (.ints .i64 so)])]=>some (decide (okI m p q so=true), .tup [.row 0 0, .int .i64 (bvI m p q so)],some ⟨3,1, .ints .i64 (blI m p q so)⟩) |_=>none⟩
theorem Zw2:k65.OK Try.prog:=fun pa args r fr h=>by
 simp only[k65]at h
 split at h
 ·simp only[Option.some.injEq,Prod.mk.injEq,decide_eq_true_eq]at h
  obtain⟨h0,rfl,rfl⟩:=h
  exact Zoe _ _ _ _ (okI_iff.1 h0)
 ·cases h
def J7:List Ctr:=[k65]++N6
theorem ZnG:ZaO Try.prog J7:=⟨Zw2,ZiV⟩
end Go.Proofs.Ytklbmkllepkjcaa
/- Paths of functions, printed by the explorer (Gx). No condition. -/
namespace Go.Proofs.Ytklbmkllepkjcaa
set_option maxRecDepth 100000
set_option linter.unusedVariables false
def ZvO(m g0 g1:Int)(xs:List Int):AFrame:={ fn:=13,N:=31,env:=[(0,AV.agg (Row.gen [.int .i64 m, .int .i64 g0, .int .i64 g1])),(1,AV.list (.ints .i64 xs))],todo:=[.code a13.code],defs:=[],rnd:=none,ret:=false,res:=[ARes.tmp 4,ARes.tmp 5,ARes.tmp 6] }
def ZDy(m g0 g1:Int)(xs:List Int):List AFrame:=[(ZvO m g0 g1 xs)]
theorem Zuk(m g0 g1:Int)(xs:List Int):Zax tab 13 [AV.agg (Row.gen [.int .i64 m, .int .i64 g0, .int .i64 g1]),AV.list (.ints .i64 xs)]=some (ZvO m g0 g1 xs):=rfl
def ZqL(A:Ar)(K:KT)(F:FT)(m g0 g1:Int)(xs:List Int):Prop:=bB (A.not (A.eq (Zaw m g0 g1) 0)) (F (AV.tup [AV.nils,AV.int .i64 0,AV.int .i64 (Zaw m g0 g1)]) (none)) (rB [decide (List.length xs≤1000000)] (bB (A.not (A.eq (sfW m xs) 0)) (F (AV.tup [AV.nils,AV.int .i64 0,AV.int .i64 (sfW m xs)]) (none)) (rB [decide (okI m g0 g1 xs=true)] (F (AV.tup [AV.row 0 0,AV.int .i64 (bvI m g0 g1 xs),AV.int .i64 0]) (some { e:=3,sz:=1,r:=.ints .i64 (blI m g0 g1 xs) })))))
theorem ZzM{A:Ar}{K:KT}{F:FT}{M:MT}{m g0 g1:Int}{xs:List Int} :ZaA A tab J7 13 K F M (.run 19 (.tf (.run 8 (.fn)) (.run 14 (.tf (.run 8 (.fn)) (.run 23 (.fn)))))) (ZDy m g0 g1 xs) []=ZqL A K F m g0 g1 xs:=by kernel_rfl
def ZxS(m g0 g1:Int)(xs:List Int):AFrame:={ fn:=31,N:=19,env:=[(0,AV.agg (Row.gen [.int .i64 m, .int .i64 g0, .int .i64 g1])),(1,AV.list (.ints .i64 xs))],todo:=[.code a31.code],defs:=[],rnd:=none,ret:=false,res:=[ARes.tmp 4,ARes.tmp 5] }
def ZDB(m g0 g1:Int)(xs:List Int):List AFrame:=[(ZxS m g0 g1 xs)]
theorem Ztd(m g0 g1:Int)(xs:List Int):Zax tab 31 [AV.agg (Row.gen [.int .i64 m, .int .i64 g0, .int .i64 g1]),AV.list (.ints .i64 xs)]=some (ZxS m g0 g1 xs):=rfl
def ZgD(m g0 g1:Int)(xs:List Int)(n0 n1 n2:Int)(b3:Bool)(l4:List Int)(n5 n6:Int)(l7:List Int):List AFrame:=[{ fn:=80,N:=34,env:=[(2,AV.ptr 80003 0 0 0),(5,AV.row 80031 0),(6,AV.int .i64 n5),(15,AV.row 80016 0),(16,AV.int .i64 n0),(17,AV.int .i64 n6)],todo:=.code (ACode.gh [] ZyY)::ZAW,defs:=[],rnd:=none,ret:=false,res:=[ARes.tmp 4] },{ fn:=31,N:=19,env:=[(1,AV.list (.ints .i64 xs)),(2,AV.ptr 31003 0 0 0),(6,AV.int .i64 n1),(13,AV.int .i64 n2),(14,AV.bool b3),(16,AV.agg (Row.gen [.int .i64 m, .int .i64 g0, .int .i64 g1])),(17,AV.list (.ints .i64 xs))],todo:=[AItem.inReg [oN 18 (OpK.ncall true 31019 80 [Opd.t 16,Opd.t 17]),mV 4 18,oN 5 (OpK.mov (cI 0))], .code ACode.ret],defs:=[],rnd:=none,ret:=false,res:=[ARes.tmp 4,ARes.tmp 5] }]
def ZeS(m g0 g1:Int)(xs:List Int)(n0 n1 n2:Int)(b3:Bool)(l4:List Int)(n5 n6:Int)(l7:List Int):Zab:=[(31003,{ base:=0,blks:=[Blk.row 24 3 (Row.gen [AV.agg (Row.gen [AV.int .i64 m,AV.int .i64 g0,AV.int .i64 g1])])] }),(80003,{ base:=0,blks:=[Blk.row 24 3 (Row.gen [AV.agg (Row.gen [AV.int .i64 m,AV.int .i64 g0,AV.int .i64 g1])])] }),(80016,{ base:=0,blks:=[Blk.row 3 1 (.ints .i64 l4)] }),(80031,{ base:=0,blks:=[Blk.row 3 1 (.ints .i64 l7)] })]
abbrev Zg1(m g0 g1:Int)(xs:List Int)(n0 n1 n2:Int)(b3:Bool)(l4:List Int)(n5 n6:Int)(l7:List Int):List AFrame×Zab:=(ZgD m g0 g1 xs n0 n1 n2 b3 l4 n5 n6 l7,ZeS m g0 g1 xs n0 n1 n2 b3 l4 n5 n6 l7)
def ZuF(A:Ar)(K:KT)(F:FT)(m g0 g1:Int)(xs:List Int):Prop:=rB [decide (List.length [Zaw m g0 g1,bsE xs]≤1000000),List.all [AV.int .i64 (Zaw m g0 g1),AV.int .i64 (bsE xs)] fun x=>AV.bx x&&Nat.beq (Zam A x) 1,decide (List.length xs≤1000000)] (bB (A.not (A.eq (ZaL [Zaw m g0 g1,bsE xs]) 0)) (F (AV.tup [AV.nils,AV.int .i64 (ZaL [Zaw m g0 g1,bsE xs])]) (none)) (rB [Zag (A.le 0 m) (Nat.ble (A.len xs+A.nat m) 4294967296),decide (List.length xs≤1000000)] (K (Zg1 (m) (g0) (g1) (xs) (A.int (A.len (A.app xs (A.rep (A.nat m) 0)))) (ZaL [Zaw m g0 g1,bsE xs]) (ZaL [Zaw m g0 g1,bsE xs]) (A.not (A.eq (ZaL [Zaw m g0 g1,bsE xs]) 0)) (A.app xs (A.rep (A.nat m) 0)) (0) (0) ([])))))
theorem ZAj{A:Ar}{K:KT}{F:FT}{M:MT}{m g0 g1:Int}{xs:List Int} :ZaA A tab J7 31 K F M (.run 23 (.tf (.run 7 (.fn)) (.run 26 (.hd)))) (ZDB m g0 g1 xs) []=ZuF A K F m g0 g1 xs:=by kernel_rfl
def ZeO(A:Ar)(K:KT)(F:FT)(m g0 g1:Int)(xs:List Int)(n0 n1 n2:Int)(b3:Bool)(l4:List Int)(n5 n6:Int)(l7:List Int):Prop:=bB (A.lt n6 n0) (rB [A.inR .i64 (A.add n6 1),Zag (Zag (Zag (Nat.ble 2 (A.len [oS m g0 n5 (A.nth l4 (A.nat n6)),oS m g1 n5 (A.nth l4 (A.nat n6))])) true) true) (Nat.ble (A.len l7+A.len (A.sub3 [oS m g0 n5 (A.nth l4 (A.nat n6)),oS m g1 n5 (A.nth l4 (A.nat n6))] 0 2)) 4294967296),Nat.beq (A.len [oS m g0 n5 (A.nth l4 (A.nat n6)),oS m g1 n5 (A.nth l4 (A.nat n6))]) 2,Nat.blt 0 (A.len [0,0]),decide (Zgb m g0 g1 n5 (A.nth l4 (A.nat n6))=true),Zag (Nat.blt (A.nat n6) (A.len l4)) true,Zag (A.le 0 n6) (Nat.blt (A.nat n6) (A.len l4))] (K (Zg1 (m) (g0) (g1) (xs) (n0) (n1) (n2) (b3) (l4) (nxS m n5 (A.nth l4 (A.nat n6))) (A.add n6 1) (A.app l7 (A.sub3 [oS m g0 n5 (A.nth l4 (A.nat n6)),oS m g1 n5 (A.nth l4 (A.nat n6))] 0 2))))) (F (AV.tup [AV.row 0 0,AV.int .i64 0]) (some { e:=3,sz:=1,r:=.ints .i64 l7 }))
theorem Zht{A:Ar}{K:KT}{F:FT}{M:MT}{m g0 g1:Int}{xs:List Int}{n0 n1 n2:Int}{b3:Bool}{l4:List Int}{n5 n6:Int}{l7:List Int} :ZaA A tab J7 31 K F M (.run 6 (.tf (.run 41 (.hd)) (.run 12 (.fn)))) (ZgD m g0 g1 xs n0 n1 n2 b3 l4 n5 n6 l7) (ZeS m g0 g1 xs n0 n1 n2 b3 l4 n5 n6 l7)=ZeO A K F m g0 g1 xs n0 n1 n2 b3 l4 n5 n6 l7:=by kernel_rfl
end Go.Proofs.Ytklbmkllepkjcaa
/- Calls at given values. Printed by facts.py. -/
namespace Go.Proofs.Ytklbmkllepkjcaa
set_option maxRecDepth 1000000
def aw0:Fact:=⟨58,[],(.agg (.gen [(.int .i64 2),(.int .i64 7),(.int .i64 5)])),none⟩
theorem ZyL:Zah Try.prog aw0.f aw0.args aw0.r aw0.fr:=Zaa (n:=100000) (l:=[]) follows Zad trivial (by kernel_rfl)
def aw1:Fact:=⟨59,[],(.row 0 0),(some ⟨3,1,(.ints .i64 [(-1),(-1),1,1,(-1),(-1),1,1])⟩)⟩
theorem Zyq:Zah Try.prog aw1.f aw1.args aw1.r aw1.fr:=Zaa (n:=100000) (l:=[]) follows Zad trivial (by kernel_rfl)
def aw2:Fact:=⟨91,[(.int .i64 2),(.int .i64 1),(.int .i64 3)],(.bool true),none⟩
theorem Zx3:Zah Try.prog aw2.f aw2.args aw2.r aw2.fr:=Zaa (n:=100000) (l:=[]) follows Zad trivial (by kernel_rfl)
def aw3:Fact:=⟨91,[(.int .i64 7),(.int .i64 1),(.int .i64 7)],(.bool true),none⟩
theorem Zxz:Zah Try.prog aw3.f aw3.args aw3.r aw3.fr:=Zaa (n:=100000) (l:=[]) follows Zad trivial (by kernel_rfl)
def aw4:Fact:=⟨111,[(.int .i64 7),(.eptr (.int .i64 1) 0),(.eptr (.int .i64 7) 0)],(.bool false),none⟩
theorem Zxq:Zah Try.prog aw4.f aw4.args aw4.r aw4.fr:=Zaa (n:=100000) (l:=[aw3]) follows Zad ⟨Zxz,trivial⟩ (by kernel_rfl)
def aw5:Fact:=⟨91,[(.int .i64 5),(.int .i64 1),(.int .i64 7)],(.bool true),none⟩
theorem ZyR:Zah Try.prog aw5.f aw5.args aw5.r aw5.fr:=Zaa (n:=100000) (l:=[]) follows Zad trivial (by kernel_rfl)
def aw6:Fact:=⟨111,[(.int .i64 5),(.eptr (.int .i64 1) 0),(.eptr (.int .i64 7) 0)],(.bool false),none⟩
theorem Zyb:Zah Try.prog aw6.f aw6.args aw6.r aw6.fr:=Zaa (n:=100000) (l:=[aw5]) follows Zad ⟨ZyR,trivial⟩ (by kernel_rfl)
def aw7:Fact:=⟨123,[(.list (.ints .i64 [7,5])),(.fn 111 [(.eptr (.int .i64 1) 0),(.eptr (.int .i64 7) 0)])],(.int .i64 (-1)),none⟩
theorem ZyD:Zah Try.prog aw7.f aw7.args aw7.r aw7.fr:=Zaa (n:=100000) (l:=[aw4,aw6]) follows Zad ⟨Zxq,⟨Zyb,trivial⟩⟩ (by kernel_rfl)
def aw8:Fact:=⟨110,[(.list (.ints .i64 [7,5])),(.fn 111 [(.eptr (.int .i64 1) 0),(.eptr (.int .i64 7) 0)])],(.bool false),none⟩
theorem Zyx:Zah Try.prog aw8.f aw8.args aw8.r aw8.fr:=Zaa (n:=100000) (l:=[aw7]) follows Zad ⟨ZyD,trivial⟩ (by kernel_rfl)
def aw9:Fact:=⟨85,[(.bool true),(.int .i64 2)],(.int .i64 0),none⟩
theorem ZgB:Zah Try.prog aw9.f aw9.args aw9.r aw9.fr:=Zaa (n:=100000) (l:=[]) follows Zad trivial (by kernel_rfl)
def aw10:Fact:=⟨70,[(.list (.ints .i64 [7,5])),(.int .i64 1),(.int .i64 7)],(.int .i64 0),none⟩
theorem Ztx:Zah Try.prog aw10.f aw10.args aw10.r aw10.fr:=Zaa (n:=100000) (l:=[aw8,aw9]) follows Zad ⟨Zyx,⟨ZgB,trivial⟩⟩ (by kernel_rfl)
def aw11:Fact:=⟨63,[(.agg (.gen [(.int .i64 2),(.int .i64 7),(.int .i64 5)]))],(.int .i64 0),none⟩
theorem Zos:Zah Try.prog aw11.f aw11.args aw11.r aw11.fr:=Zaa (n:=100000) (l:=[aw2,aw10]) follows Zad ⟨Zx3,⟨Ztx,trivial⟩⟩ (by kernel_rfl)
def aw12:Fact:=⟨85,[(.bool true),(.int .i64 10)],(.int .i64 0),none⟩
theorem ZkU:Zah Try.prog aw12.f aw12.args aw12.r aw12.fr:=Zaa (n:=100000) (l:=[]) follows Zad trivial (by kernel_rfl)
def aw13:Fact:=⟨85,[(.bool true),(.int .i64 8)],(.int .i64 0),none⟩
theorem Znt:Zah Try.prog aw13.f aw13.args aw13.r aw13.fr:=Zaa (n:=100000) (l:=[]) follows Zad trivial (by kernel_rfl)
def aw14:Fact:=⟨91,[(.int .i64 (-1)),(.int .i64 (-7)),(.int .i64 7)],(.bool true),none⟩
theorem Zuj:Zah Try.prog aw14.f aw14.args aw14.r aw14.fr:=Zaa (n:=100000) (l:=[]) follows Zad trivial (by kernel_rfl)
def aw15:Fact:=⟨111,[(.int .i64 (-1)),(.eptr (.int .i64 (-7)) 0),(.eptr (.int .i64 7) 0)],(.bool false),none⟩
theorem Zu5:Zah Try.prog aw15.f aw15.args aw15.r aw15.fr:=Zaa (n:=100000) (l:=[aw14]) follows Zad ⟨Zuj,trivial⟩ (by kernel_rfl)
def aw16:Fact:=⟨91,[(.int .i64 1),(.int .i64 (-7)),(.int .i64 7)],(.bool true),none⟩
theorem ZuN:Zah Try.prog aw16.f aw16.args aw16.r aw16.fr:=Zaa (n:=100000) (l:=[]) follows Zad trivial (by kernel_rfl)
def aw17:Fact:=⟨111,[(.int .i64 1),(.eptr (.int .i64 (-7)) 0),(.eptr (.int .i64 7) 0)],(.bool false),none⟩
theorem Zux:Zah Try.prog aw17.f aw17.args aw17.r aw17.fr:=Zaa (n:=100000) (l:=[aw16]) follows Zad ⟨ZuN,trivial⟩ (by kernel_rfl)
def aw18:Fact:=⟨123,[(.list (.ints .i64 [(-1),(-1),1,1,(-1),(-1),1,1])),(.fn 111 [(.eptr (.int .i64 (-7)) 0),(.eptr (.int .i64 7) 0)])],(.int .i64 (-1)),none⟩
theorem Zt6:Zah Try.prog aw18.f aw18.args aw18.r aw18.fr:=Zaa (n:=100000) (l:=[aw15,aw17]) follows Zad ⟨Zu5,⟨Zux,trivial⟩⟩ (by kernel_rfl)
def aw19:Fact:=⟨110,[(.list (.ints .i64 [(-1),(-1),1,1,(-1),(-1),1,1])),(.fn 111 [(.eptr (.int .i64 (-7)) 0),(.eptr (.int .i64 7) 0)])],(.bool false),none⟩
theorem Zu2:Zah Try.prog aw19.f aw19.args aw19.r aw19.fr:=Zaa (n:=100000) (l:=[aw18]) follows Zad ⟨Zt6,trivial⟩ (by kernel_rfl)
def aw20:Fact:=⟨70,[(.list (.ints .i64 [(-1),(-1),1,1,(-1),(-1),1,1])),(.int .i64 (-7)),(.int .i64 7)],(.int .i64 0),none⟩
theorem Zuy:Zah Try.prog aw20.f aw20.args aw20.r aw20.fr:=Zaa (n:=100000) (l:=[aw19,aw9]) follows Zad ⟨Zu2,⟨ZgB,trivial⟩⟩ (by kernel_rfl)
def aw21:Fact:=⟨72,[(.list (.ints .i64 [0,0,0]))],(.int .i64 0),none⟩
theorem Zng:Zah Try.prog aw21.f aw21.args aw21.r aw21.fr:=Zaa (n:=100000) (l:=[]) follows Zad trivial (by kernel_rfl)
def aw22:Fact:=⟨64,[(.agg (.gen [(.int .i64 2),(.int .i64 7),(.int .i64 5)])),(.list (.ints .i64 [(-1),(-1),1,1,(-1),(-1),1,1]))],(.int .i64 0),none⟩
theorem ZtR:Zah Try.prog aw22.f aw22.args aw22.r aw22.fr:=Zaa (n:=100000) (l:=[aw12,aw13,aw20,aw21]) follows Zad ⟨ZkU,⟨Znt,⟨Zuy,⟨Zng,trivial⟩⟩⟩⟩ (by kernel_rfl)
def aw23:Fact:=⟨84,[(.agg (.gen [(.int .i64 2),(.int .i64 7),(.int .i64 5),(.list (.ints .i64 [(-1),(-1),1,1,(-1),(-1),1,1]))]))],(.int .i64 4),none⟩
theorem Znu:Zah Try.prog aw23.f aw23.args aw23.r aw23.fr:=Zaa (n:=100000) (l:=[]) follows Zad trivial (by kernel_rfl)
def aw24:Fact:=⟨86,[(.agg (.gen [(.int .i64 2),(.int .i64 7),(.int .i64 5),(.list (.ints .i64 [(-1),(-1),1,1,(-1),(-1),1,1]))]))],(.int .i64 4),none⟩
theorem Zut:Zah Try.prog aw24.f aw24.args aw24.r aw24.fr:=Zaa (n:=100000) (l:=[]) follows Zad trivial (by kernel_rfl)
def aw25:Fact:=⟨127,[(.int .u64 1),(.int .u64 4)],(.tup [(.int .u64 0),(.int .u64 4)]),none⟩
theorem Zt8:Zah Try.prog aw25.f aw25.args aw25.r aw25.fr:=Zaa (n:=100000) (l:=[]) follows Zad trivial (by kernel_rfl)
def aw26:Fact:=⟨114,[(.int .u64 1),(.int .u64 4)],(.tup [(.int .u64 0),(.int .u64 4)]),none⟩
theorem Zo7:Zah Try.prog aw26.f aw26.args aw26.r aw26.fr:=Zaa (n:=100000) (l:=[aw25]) follows Zad ⟨Zt8,trivial⟩ (by kernel_rfl)
def aw27:Fact:=⟨122,[(.list (.flts .f32 [3351465984])),(.int .i64 4)],(.row 0 0),(some ⟨118,1,(.flts .f32 [3351465984,3351465984,3351465984,3351465984])⟩)⟩
theorem ZtD:Zah Try.prog aw27.f aw27.args aw27.r aw27.fr:=Zaa (n:=100000) (l:=[aw26]) follows Zad ⟨Zo7,trivial⟩ (by kernel_rfl)
def aw28:Fact:=⟨125,[(.int .u64 0)],(.int .i64 0),none⟩
theorem ZtJ:Zah Try.prog aw28.f aw28.args aw28.r aw28.fr:=Zaa (n:=100000) (l:=[]) follows Zad trivial (by kernel_rfl)
def aw29:Fact:=⟨113,[(.int .u64 0)],(.int .i64 0),none⟩
theorem ZoQ:Zah Try.prog aw29.f aw29.args aw29.r aw29.fr:=Zaa (n:=100000) (l:=[aw28]) follows Zad ⟨ZtJ,trivial⟩ (by kernel_rfl)
def aw30:Fact:=⟨82,[(.agg (.gen [(.int .i64 2),(.int .i64 7),(.int .i64 5)])),(.int .i64 0),(.int .i64 0)],(.tup [(.int .i64 0),(.agg (.ints .i64 [0,0]))]),none⟩
theorem ZsY:Zah Try.prog aw30.f aw30.args aw30.r aw30.fr:=Zaa (n:=100000) (l:=[aw29]) follows Zad ⟨ZoQ,trivial⟩ (by kernel_rfl)
def aw31:Fact:=⟨89,[(.int .i64 0),(.int .i64 1)],(.int .i64 1),none⟩
theorem Zvo:Zah Try.prog aw31.f aw31.args aw31.r aw31.fr:=Zaa (n:=100000) (l:=[]) follows Zad trivial (by kernel_rfl)
def aw32:Fact:=⟨108,[(.agg (.gen [(.int .i64 2),(.int .i64 7),(.int .i64 5),(.list (.ints .i64 [(-1),(-1),1,1,(-1),(-1),1,1]))]))],(.int .i64 2),none⟩
theorem ZuG:Zah Try.prog aw32.f aw32.args aw32.r aw32.fr:=Zaa (n:=100000) (l:=[aw23]) follows Zad ⟨Znu,trivial⟩ (by kernel_rfl)
def aw33:Fact:=⟨125,[(.int .u64 1)],(.int .i64 1),none⟩
theorem Ztt:Zah Try.prog aw33.f aw33.args aw33.r aw33.fr:=Zaa (n:=100000) (l:=[]) follows Zad trivial (by kernel_rfl)
def aw34:Fact:=⟨113,[(.int .u64 1)],(.int .i64 1),none⟩
theorem ZnJ:Zah Try.prog aw34.f aw34.args aw34.r aw34.fr:=Zaa (n:=100000) (l:=[aw33]) follows Zad ⟨Ztt,trivial⟩ (by kernel_rfl)
def aw35:Fact:=⟨82,[(.agg (.gen [(.int .i64 2),(.int .i64 7),(.int .i64 5)])),(.int .i64 1),(.int .i64 0)],(.tup [(.int .i64 0),(.agg (.ints .i64 [1,1]))]),none⟩
theorem ZoK:Zah Try.prog aw35.f aw35.args aw35.r aw35.fr:=Zaa (n:=100000) (l:=[aw34]) follows Zad ⟨ZnJ,trivial⟩ (by kernel_rfl)
def aw36:Fact:=⟨89,[(.int .i64 1),(.int .i64 1)],(.int .i64 (-1)),none⟩
theorem Zva:Zah Try.prog aw36.f aw36.args aw36.r aw36.fr:=Zaa (n:=100000) (l:=[]) follows Zad trivial (by kernel_rfl)
def aw37:Fact:=⟨125,[(.int .u64 2)],(.int .i64 1),none⟩
theorem ZtZ:Zah Try.prog aw37.f aw37.args aw37.r aw37.fr:=Zaa (n:=100000) (l:=[]) follows Zad trivial (by kernel_rfl)
def aw38:Fact:=⟨113,[(.int .u64 2)],(.int .i64 1),none⟩
theorem Zs8:Zah Try.prog aw38.f aw38.args aw38.r aw38.fr:=Zaa (n:=100000) (l:=[aw37]) follows Zad ⟨ZtZ,trivial⟩ (by kernel_rfl)
def aw39:Fact:=⟨82,[(.agg (.gen [(.int .i64 2),(.int .i64 7),(.int .i64 5)])),(.int .i64 2),(.int .i64 0)],(.tup [(.int .i64 1),(.agg (.ints .i64 [1,0]))]),none⟩
theorem ZnN:Zah Try.prog aw39.f aw39.args aw39.r aw39.fr:=Zaa (n:=100000) (l:=[aw38,aw29]) follows Zad ⟨Zs8,⟨ZoQ,trivial⟩⟩ (by kernel_rfl)
def aw40:Fact:=⟨125,[(.int .u64 3)],(.int .i64 2),none⟩
theorem Zui:Zah Try.prog aw40.f aw40.args aw40.r aw40.fr:=Zaa (n:=100000) (l:=[]) follows Zad trivial (by kernel_rfl)
def aw41:Fact:=⟨113,[(.int .u64 3)],(.int .i64 2),none⟩
theorem Ztz:Zah Try.prog aw41.f aw41.args aw41.r aw41.fr:=Zaa (n:=100000) (l:=[aw40]) follows Zad ⟨Zui,trivial⟩ (by kernel_rfl)
def aw42:Fact:=⟨82,[(.agg (.gen [(.int .i64 2),(.int .i64 7),(.int .i64 5)])),(.int .i64 3),(.int .i64 0)],(.tup [(.int .i64 1),(.agg (.ints .i64 [0,1]))]),none⟩
theorem Zn8:Zah Try.prog aw42.f aw42.args aw42.r aw42.fr:=Zaa (n:=100000) (l:=[aw41,aw34]) follows Zad ⟨Ztz,⟨ZnJ,trivial⟩⟩ (by kernel_rfl)
def aw43:Fact:=⟨89,[(.int .i64 0),(.int .i64 (-1))],(.int .i64 (-1)),none⟩
theorem ZuA:Zah Try.prog aw43.f aw43.args aw43.r aw43.fr:=Zaa (n:=100000) (l:=[]) follows Zad trivial (by kernel_rfl)
def aw44:Fact:=⟨89,[(.int .i64 1),(.int .i64 (-1))],(.int .i64 1),none⟩
theorem ZuM:Zah Try.prog aw44.f aw44.args aw44.r aw44.fr:=Zaa (n:=100000) (l:=[]) follows Zad trivial (by kernel_rfl)
def aw45:Fact:=⟨125,[(.int .u64 4)],(.int .i64 1),none⟩
theorem ZuB:Zah Try.prog aw45.f aw45.args aw45.r aw45.fr:=Zaa (n:=100000) (l:=[]) follows Zad trivial (by kernel_rfl)
def aw46:Fact:=⟨113,[(.int .u64 4)],(.int .i64 1),none⟩
theorem Znk:Zah Try.prog aw46.f aw46.args aw46.r aw46.fr:=Zaa (n:=100000) (l:=[aw45]) follows Zad ⟨ZuB,trivial⟩ (by kernel_rfl)
def aw47:Fact:=⟨82,[(.agg (.gen [(.int .i64 2),(.int .i64 7),(.int .i64 5)])),(.int .i64 0),(.int .i64 1)],(.tup [(.int .i64 2),(.agg (.ints .i64 [1,1]))]),none⟩
theorem ZnU:Zah Try.prog aw47.f aw47.args aw47.r aw47.fr:=Zaa (n:=100000) (l:=[aw46]) follows Zad ⟨Znk,trivial⟩ (by kernel_rfl)
def aw48:Fact:=⟨125,[(.int .u64 5)],(.int .i64 2),none⟩
theorem Ztu:Zah Try.prog aw48.f aw48.args aw48.r aw48.fr:=Zaa (n:=100000) (l:=[]) follows Zad trivial (by kernel_rfl)
def aw49:Fact:=⟨113,[(.int .u64 5)],(.int .i64 2),none⟩
theorem ZnL:Zah Try.prog aw49.f aw49.args aw49.r aw49.fr:=Zaa (n:=100000) (l:=[aw48]) follows Zad ⟨Ztu,trivial⟩ (by kernel_rfl)
def aw50:Fact:=⟨82,[(.agg (.gen [(.int .i64 2),(.int .i64 7),(.int .i64 5)])),(.int .i64 1),(.int .i64 1)],(.tup [(.int .i64 2),(.agg (.ints .i64 [0,0]))]),none⟩
theorem ZoE:Zah Try.prog aw50.f aw50.args aw50.r aw50.fr:=Zaa (n:=100000) (l:=[aw49]) follows Zad ⟨ZnL,trivial⟩ (by kernel_rfl)
def aw51:Fact:=⟨125,[(.int .u64 6)],(.int .i64 2),none⟩
theorem ZtW:Zah Try.prog aw51.f aw51.args aw51.r aw51.fr:=Zaa (n:=100000) (l:=[]) follows Zad trivial (by kernel_rfl)
def aw52:Fact:=⟨113,[(.int .u64 6)],(.int .i64 2),none⟩
theorem ZuX:Zah Try.prog aw52.f aw52.args aw52.r aw52.fr:=Zaa (n:=100000) (l:=[aw51]) follows Zad ⟨ZtW,trivial⟩ (by kernel_rfl)
def aw53:Fact:=⟨82,[(.agg (.gen [(.int .i64 2),(.int .i64 7),(.int .i64 5)])),(.int .i64 2),(.int .i64 1)],(.tup [(.int .i64 3),(.agg (.ints .i64 [0,1]))]),none⟩
theorem Zo9:Zah Try.prog aw53.f aw53.args aw53.r aw53.fr:=Zaa (n:=100000) (l:=[aw52,aw46]) follows Zad ⟨ZuX,⟨Znk,trivial⟩⟩ (by kernel_rfl)
def aw54:Fact:=⟨125,[(.int .u64 7)],(.int .i64 3),none⟩
theorem Zvp:Zah Try.prog aw54.f aw54.args aw54.r aw54.fr:=Zaa (n:=100000) (l:=[]) follows Zad trivial (by kernel_rfl)
def aw55:Fact:=⟨113,[(.int .u64 7)],(.int .i64 3),none⟩
theorem Ztl:Zah Try.prog aw55.f aw55.args aw55.r aw55.fr:=Zaa (n:=100000) (l:=[aw54]) follows Zad ⟨Zvp,trivial⟩ (by kernel_rfl)
def aw56:Fact:=⟨82,[(.agg (.gen [(.int .i64 2),(.int .i64 7),(.int .i64 5)])),(.int .i64 3),(.int .i64 1)],(.tup [(.int .i64 3),(.agg (.ints .i64 [1,0]))]),none⟩
theorem ZoJ:Zah Try.prog aw56.f aw56.args aw56.r aw56.fr:=Zaa (n:=100000) (l:=[aw55,aw49]) follows Zad ⟨Ztl,⟨ZnL,trivial⟩⟩ (by kernel_rfl)
def aw57:Fact:=⟨65,[(.agg (.gen [(.int .i64 2),(.int .i64 7),(.int .i64 5),(.list (.ints .i64 [(-1),(-1),1,1,(-1),(-1),1,1]))]))],(.tup [(.row 0 0),(.int .i64 6)]),(some ⟨3,1,(.ints .i64 [1,0])⟩)⟩
theorem ZuZ:Zah Try.prog aw57.f aw57.args aw57.r aw57.fr:=Zaa (n:=100000) (l:=[aw23,aw24,aw27,aw30,aw31,aw32,aw35,aw36,aw39,aw42,aw43,aw44,aw47,aw50,aw53,aw56]) follows Zad ⟨Znu,⟨Zut,⟨ZtD,⟨ZsY,⟨Zvo,⟨ZuG,⟨ZoK,⟨Zva,⟨ZnN,⟨Zn8,⟨ZuA,⟨ZuM,⟨ZnU,⟨ZoE,⟨Zo9,⟨ZoJ,trivial⟩⟩⟩⟩⟩⟩⟩⟩⟩⟩⟩⟩⟩⟩⟩⟩ (by kernel_rfl)
def aw58:Fact:=⟨13,[(.agg (.gen [(.int .i64 2),(.int .i64 7),(.int .i64 5)])),(.list (.ints .i64 [(-1),(-1),1,1,(-1),(-1),1,1]))],(.tup [(.row 0 0),(.int .i64 6),(.int .i64 0)]),(some ⟨3,1,(.ints .i64 [1,0])⟩)⟩
theorem Ztj:Zah Try.prog aw58.f aw58.args aw58.r aw58.fr:=Zaa (n:=100000) (l:=[aw11,aw22,aw57]) follows Zad ⟨Zos,⟨ZtR,⟨ZuZ,trivial⟩⟩⟩ (by kernel_rfl)
def aw59:Fact:=⟨60,[(.int .i64 1)],(.row 0 0),(some ⟨3,1,(.ints .i64 [0,0,0,0,0,0,0,0,0,0,0,0,1])⟩)⟩
theorem ZsU:Zah Try.prog aw59.f aw59.args aw59.r aw59.fr:=Zaa (n:=100000) (l:=[]) follows Zad trivial (by kernel_rfl)
def aw60:Fact:=⟨91,[(.int .i64 1),(.int .i64 1),(.int .i64 3)],(.bool true),none⟩
theorem Zth:Zah Try.prog aw60.f aw60.args aw60.r aw60.fr:=Zaa (n:=100000) (l:=[]) follows Zad trivial (by kernel_rfl)
def aw61:Fact:=⟨73,[(.int .i64 1)],(.int .i64 0),none⟩
theorem Zvb:Zah Try.prog aw61.f aw61.args aw61.r aw61.fr:=Zaa (n:=100000) (l:=[aw60,aw9]) follows Zad ⟨Zth,⟨ZgB,trivial⟩⟩ (by kernel_rfl)
def aw62:Fact:=⟨91,[(.int .i64 0),(.int .i64 0),(.int .i64 15)],(.bool true),none⟩
theorem Zts:Zah Try.prog aw62.f aw62.args aw62.r aw62.fr:=Zaa (n:=100000) (l:=[]) follows Zad trivial (by kernel_rfl)
def aw63:Fact:=⟨111,[(.int .i64 0),(.eptr (.int .i64 0) 0),(.eptr (.int .i64 15) 0)],(.bool false),none⟩
theorem ZsQ:Zah Try.prog aw63.f aw63.args aw63.r aw63.fr:=Zaa (n:=100000) (l:=[aw62]) follows Zad ⟨Zts,trivial⟩ (by kernel_rfl)
def aw64:Fact:=⟨91,[(.int .i64 1),(.int .i64 0),(.int .i64 15)],(.bool true),none⟩
theorem Zvl:Zah Try.prog aw64.f aw64.args aw64.r aw64.fr:=Zaa (n:=100000) (l:=[]) follows Zad trivial (by kernel_rfl)
def aw65:Fact:=⟨111,[(.int .i64 1),(.eptr (.int .i64 0) 0),(.eptr (.int .i64 15) 0)],(.bool false),none⟩
theorem Zu9:Zah Try.prog aw65.f aw65.args aw65.r aw65.fr:=Zaa (n:=100000) (l:=[aw64]) follows Zad ⟨Zvl,trivial⟩ (by kernel_rfl)
def aw66:Fact:=⟨123,[(.list (.ints .i64 [0,0,0,0,0,0,0,0,0,0,0,0,1])),(.fn 111 [(.eptr (.int .i64 0) 0),(.eptr (.int .i64 15) 0)])],(.int .i64 (-1)),none⟩
theorem ZtP:Zah Try.prog aw66.f aw66.args aw66.r aw66.fr:=Zaa (n:=100000) (l:=[aw63,aw65]) follows Zad ⟨ZsQ,⟨Zu9,trivial⟩⟩ (by kernel_rfl)
def aw67:Fact:=⟨110,[(.list (.ints .i64 [0,0,0,0,0,0,0,0,0,0,0,0,1])),(.fn 111 [(.eptr (.int .i64 0) 0),(.eptr (.int .i64 15) 0)])],(.bool false),none⟩
theorem Ztn:Zah Try.prog aw67.f aw67.args aw67.r aw67.fr:=Zaa (n:=100000) (l:=[aw66]) follows Zad ⟨ZtP,trivial⟩ (by kernel_rfl)
def aw68:Fact:=⟨70,[(.list (.ints .i64 [0,0,0,0,0,0,0,0,0,0,0,0,1])),(.int .i64 0),(.int .i64 15)],(.int .i64 0),none⟩
theorem Zvk:Zah Try.prog aw68.f aw68.args aw68.r aw68.fr:=Zaa (n:=100000) (l:=[aw67,aw9]) follows Zad ⟨Ztn,⟨ZgB,trivial⟩⟩ (by kernel_rfl)
def aw69:Fact:=⟨72,[(.list (.ints .i64 [0,0]))],(.int .i64 0),none⟩
theorem ZhS:Zah Try.prog aw69.f aw69.args aw69.r aw69.fr:=Zaa (n:=100000) (l:=[]) follows Zad trivial (by kernel_rfl)
def aw70:Fact:=⟨74,[(.list (.ints .i64 [0,0,0,0,0,0,0,0,0,0,0,0,1])),(.int .i64 13)],(.int .i64 0),none⟩
theorem Ztc:Zah Try.prog aw70.f aw70.args aw70.r aw70.fr:=Zaa (n:=100000) (l:=[aw12,aw68,aw69]) follows Zad ⟨ZkU,⟨Zvk,⟨ZhS,trivial⟩⟩⟩ (by kernel_rfl)
def aw71:Fact:=⟨71,[(.int .i64 1),(.int .i64 2)],(.int .i64 2),none⟩
theorem ZaM:Zah Try.prog aw71.f aw71.args aw71.r aw71.fr:=Zaa (n:=100000) (l:=[]) follows Zad trivial (by kernel_rfl)
def aw72:Fact:=⟨71,[(.int .i64 2),(.int .i64 2)],(.int .i64 4),none⟩
theorem ZaQ:Zah Try.prog aw72.f aw72.args aw72.r aw72.fr:=Zaa (n:=100000) (l:=[]) follows Zad trivial (by kernel_rfl)
def aw73:Fact:=⟨71,[(.int .i64 4),(.int .i64 2)],(.int .i64 8),none⟩
theorem ZaY:Zah Try.prog aw73.f aw73.args aw73.r aw73.fr:=Zaa (n:=100000) (l:=[]) follows Zad trivial (by kernel_rfl)
def aw74:Fact:=⟨71,[(.int .i64 8),(.int .i64 2)],(.int .i64 3),none⟩
theorem Zbc:Zah Try.prog aw74.f aw74.args aw74.r aw74.fr:=Zaa (n:=100000) (l:=[]) follows Zad trivial (by kernel_rfl)
def aw75:Fact:=⟨71,[(.int .i64 3),(.int .i64 2)],(.int .i64 6),none⟩
theorem Zbb:Zah Try.prog aw75.f aw75.args aw75.r aw75.fr:=Zaa (n:=100000) (l:=[]) follows Zad trivial (by kernel_rfl)
def aw76:Fact:=⟨71,[(.int .i64 6),(.int .i64 2)],(.int .i64 12),none⟩
theorem Zbp:Zah Try.prog aw76.f aw76.args aw76.r aw76.fr:=Zaa (n:=100000) (l:=[]) follows Zad trivial (by kernel_rfl)
def aw77:Fact:=⟨71,[(.int .i64 12),(.int .i64 2)],(.int .i64 11),none⟩
theorem ZbI:Zah Try.prog aw77.f aw77.args aw77.r aw77.fr:=Zaa (n:=100000) (l:=[]) follows Zad trivial (by kernel_rfl)
def aw78:Fact:=⟨71,[(.int .i64 11),(.int .i64 2)],(.int .i64 5),none⟩
theorem Zb5:Zah Try.prog aw78.f aw78.args aw78.r aw78.fr:=Zaa (n:=100000) (l:=[]) follows Zad trivial (by kernel_rfl)
def aw79:Fact:=⟨71,[(.int .i64 5),(.int .i64 2)],(.int .i64 10),none⟩
theorem Zcr:Zah Try.prog aw79.f aw79.args aw79.r aw79.fr:=Zaa (n:=100000) (l:=[]) follows Zad trivial (by kernel_rfl)
def aw80:Fact:=⟨71,[(.int .i64 10),(.int .i64 2)],(.int .i64 7),none⟩
theorem ZdO:Zah Try.prog aw80.f aw80.args aw80.r aw80.fr:=Zaa (n:=100000) (l:=[]) follows Zad trivial (by kernel_rfl)
def aw81:Fact:=⟨71,[(.int .i64 7),(.int .i64 2)],(.int .i64 14),none⟩
theorem Ze1:Zah Try.prog aw81.f aw81.args aw81.r aw81.fr:=Zaa (n:=100000) (l:=[]) follows Zad trivial (by kernel_rfl)
def aw82:Fact:=⟨71,[(.int .i64 14),(.int .i64 2)],(.int .i64 15),none⟩
theorem Zim:Zah Try.prog aw82.f aw82.args aw82.r aw82.fr:=Zaa (n:=100000) (l:=[]) follows Zad trivial (by kernel_rfl)
def aw83:Fact:=⟨71,[(.int .i64 15),(.int .i64 2)],(.int .i64 13),none⟩
theorem Zkx:Zah Try.prog aw83.f aw83.args aw83.r aw83.fr:=Zaa (n:=100000) (l:=[]) follows Zad trivial (by kernel_rfl)
def aw84:Fact:=⟨71,[(.int .i64 13),(.int .i64 2)],(.int .i64 9),none⟩
theorem ZsW:Zah Try.prog aw84.f aw84.args aw84.r aw84.fr:=Zaa (n:=100000) (l:=[]) follows Zad trivial (by kernel_rfl)
def aw85:Fact:=⟨117,[(.int .i64 14)],(.int .i64 9),none⟩
theorem ZoZ:Zah Try.prog aw85.f aw85.args aw85.r aw85.fr:=Zaa (n:=100000) (l:=[aw71,aw72,aw73,aw74,aw75,aw76,aw77,aw78,aw79,aw80,aw81,aw82,aw83,aw84]) follows Zad ⟨ZaM,⟨ZaQ,⟨ZaY,⟨Zbc,⟨Zbb,⟨Zbp,⟨ZbI,⟨Zb5,⟨Zcr,⟨ZdO,⟨Ze1,⟨Zim,⟨Zkx,⟨ZsW,trivial⟩⟩⟩⟩⟩⟩⟩⟩⟩⟩⟩⟩⟩⟩ (by kernel_rfl)
def aw86:Fact:=⟨71,[(.int .i64 0),(.int .i64 9)],(.int .i64 0),none⟩
theorem Zki:Zah Try.prog aw86.f aw86.args aw86.r aw86.fr:=Zaa (n:=100000) (l:=[]) follows Zad trivial (by kernel_rfl)
def aw87:Fact:=⟨117,[(.int .i64 13)],(.int .i64 13),none⟩
theorem Zvs:Zah Try.prog aw87.f aw87.args aw87.r aw87.fr:=Zaa (n:=100000) (l:=[aw71,aw72,aw73,aw74,aw75,aw76,aw77,aw78,aw79,aw80,aw81,aw82,aw83]) follows Zad ⟨ZaM,⟨ZaQ,⟨ZaY,⟨Zbc,⟨Zbb,⟨Zbp,⟨ZbI,⟨Zb5,⟨Zcr,⟨ZdO,⟨Ze1,⟨Zim,⟨Zkx,trivial⟩⟩⟩⟩⟩⟩⟩⟩⟩⟩⟩⟩⟩ (by kernel_rfl)
def aw88:Fact:=⟨71,[(.int .i64 0),(.int .i64 13)],(.int .i64 0),none⟩
theorem ZnC:Zah Try.prog aw88.f aw88.args aw88.r aw88.fr:=Zaa (n:=100000) (l:=[]) follows Zad trivial (by kernel_rfl)
def aw89:Fact:=⟨117,[(.int .i64 12)],(.int .i64 15),none⟩
theorem Zo6:Zah Try.prog aw89.f aw89.args aw89.r aw89.fr:=Zaa (n:=100000) (l:=[aw71,aw72,aw73,aw74,aw75,aw76,aw77,aw78,aw79,aw80,aw81,aw82]) follows Zad ⟨ZaM,⟨ZaQ,⟨ZaY,⟨Zbc,⟨Zbb,⟨Zbp,⟨ZbI,⟨Zb5,⟨Zcr,⟨ZdO,⟨Ze1,⟨Zim,trivial⟩⟩⟩⟩⟩⟩⟩⟩⟩⟩⟩⟩ (by kernel_rfl)
def aw90:Fact:=⟨71,[(.int .i64 0),(.int .i64 15)],(.int .i64 0),none⟩
theorem Zoy:Zah Try.prog aw90.f aw90.args aw90.r aw90.fr:=Zaa (n:=100000) (l:=[]) follows Zad trivial (by kernel_rfl)
def aw91:Fact:=⟨117,[(.int .i64 11)],(.int .i64 14),none⟩
theorem Zuf:Zah Try.prog aw91.f aw91.args aw91.r aw91.fr:=Zaa (n:=100000) (l:=[aw71,aw72,aw73,aw74,aw75,aw76,aw77,aw78,aw79,aw80,aw81]) follows Zad ⟨ZaM,⟨ZaQ,⟨ZaY,⟨Zbc,⟨Zbb,⟨Zbp,⟨ZbI,⟨Zb5,⟨Zcr,⟨ZdO,⟨Ze1,trivial⟩⟩⟩⟩⟩⟩⟩⟩⟩⟩⟩ (by kernel_rfl)
def aw92:Fact:=⟨71,[(.int .i64 0),(.int .i64 14)],(.int .i64 0),none⟩
theorem Zkj:Zah Try.prog aw92.f aw92.args aw92.r aw92.fr:=Zaa (n:=100000) (l:=[]) follows Zad trivial (by kernel_rfl)
def aw93:Fact:=⟨117,[(.int .i64 10)],(.int .i64 7),none⟩
theorem Zpq:Zah Try.prog aw93.f aw93.args aw93.r aw93.fr:=Zaa (n:=100000) (l:=[aw71,aw72,aw73,aw74,aw75,aw76,aw77,aw78,aw79,aw80]) follows Zad ⟨ZaM,⟨ZaQ,⟨ZaY,⟨Zbc,⟨Zbb,⟨Zbp,⟨ZbI,⟨Zb5,⟨Zcr,⟨ZdO,trivial⟩⟩⟩⟩⟩⟩⟩⟩⟩⟩ (by kernel_rfl)
def aw94:Fact:=⟨71,[(.int .i64 0),(.int .i64 7)],(.int .i64 0),none⟩
theorem Zne:Zah Try.prog aw94.f aw94.args aw94.r aw94.fr:=Zaa (n:=100000) (l:=[]) follows Zad trivial (by kernel_rfl)
def aw95:Fact:=⟨117,[(.int .i64 9)],(.int .i64 10),none⟩
theorem Ztq:Zah Try.prog aw95.f aw95.args aw95.r aw95.fr:=Zaa (n:=100000) (l:=[aw71,aw72,aw73,aw74,aw75,aw76,aw77,aw78,aw79]) follows Zad ⟨ZaM,⟨ZaQ,⟨ZaY,⟨Zbc,⟨Zbb,⟨Zbp,⟨ZbI,⟨Zb5,⟨Zcr,trivial⟩⟩⟩⟩⟩⟩⟩⟩⟩ (by kernel_rfl)
def aw96:Fact:=⟨71,[(.int .i64 0),(.int .i64 10)],(.int .i64 0),none⟩
theorem Zph:Zah Try.prog aw96.f aw96.args aw96.r aw96.fr:=Zaa (n:=100000) (l:=[]) follows Zad trivial (by kernel_rfl)
def aw97:Fact:=⟨117,[(.int .i64 8)],(.int .i64 5),none⟩
theorem ZoI:Zah Try.prog aw97.f aw97.args aw97.r aw97.fr:=Zaa (n:=100000) (l:=[aw71,aw72,aw73,aw74,aw75,aw76,aw77,aw78]) follows Zad ⟨ZaM,⟨ZaQ,⟨ZaY,⟨Zbc,⟨Zbb,⟨Zbp,⟨ZbI,⟨Zb5,trivial⟩⟩⟩⟩⟩⟩⟩⟩ (by kernel_rfl)
def aw98:Fact:=⟨71,[(.int .i64 0),(.int .i64 5)],(.int .i64 0),none⟩
theorem Zox:Zah Try.prog aw98.f aw98.args aw98.r aw98.fr:=Zaa (n:=100000) (l:=[]) follows Zad trivial (by kernel_rfl)
def aw99:Fact:=⟨117,[(.int .i64 7)],(.int .i64 11),none⟩
theorem ZsN:Zah Try.prog aw99.f aw99.args aw99.r aw99.fr:=Zaa (n:=100000) (l:=[aw71,aw72,aw73,aw74,aw75,aw76,aw77]) follows Zad ⟨ZaM,⟨ZaQ,⟨ZaY,⟨Zbc,⟨Zbb,⟨Zbp,⟨ZbI,trivial⟩⟩⟩⟩⟩⟩⟩ (by kernel_rfl)
def aw100:Fact:=⟨71,[(.int .i64 0),(.int .i64 11)],(.int .i64 0),none⟩
theorem Zlf:Zah Try.prog aw100.f aw100.args aw100.r aw100.fr:=Zaa (n:=100000) (l:=[]) follows Zad trivial (by kernel_rfl)
def aw101:Fact:=⟨117,[(.int .i64 6)],(.int .i64 12),none⟩
theorem Zl0:Zah Try.prog aw101.f aw101.args aw101.r aw101.fr:=Zaa (n:=100000) (l:=[aw71,aw72,aw73,aw74,aw75,aw76]) follows Zad ⟨ZaM,⟨ZaQ,⟨ZaY,⟨Zbc,⟨Zbb,⟨Zbp,trivial⟩⟩⟩⟩⟩⟩ (by kernel_rfl)
def aw102:Fact:=⟨71,[(.int .i64 0),(.int .i64 12)],(.int .i64 0),none⟩
theorem Zk7:Zah Try.prog aw102.f aw102.args aw102.r aw102.fr:=Zaa (n:=100000) (l:=[]) follows Zad trivial (by kernel_rfl)
def aw103:Fact:=⟨117,[(.int .i64 5)],(.int .i64 6),none⟩
theorem Zqk:Zah Try.prog aw103.f aw103.args aw103.r aw103.fr:=Zaa (n:=100000) (l:=[aw71,aw72,aw73,aw74,aw75]) follows Zad ⟨ZaM,⟨ZaQ,⟨ZaY,⟨Zbc,⟨Zbb,trivial⟩⟩⟩⟩⟩ (by kernel_rfl)
def aw104:Fact:=⟨71,[(.int .i64 0),(.int .i64 6)],(.int .i64 0),none⟩
theorem ZlL:Zah Try.prog aw104.f aw104.args aw104.r aw104.fr:=Zaa (n:=100000) (l:=[]) follows Zad trivial (by kernel_rfl)
def aw105:Fact:=⟨117,[(.int .i64 4)],(.int .i64 3),none⟩
theorem Zlq:Zah Try.prog aw105.f aw105.args aw105.r aw105.fr:=Zaa (n:=100000) (l:=[aw71,aw72,aw73,aw74]) follows Zad ⟨ZaM,⟨ZaQ,⟨ZaY,⟨Zbc,trivial⟩⟩⟩⟩ (by kernel_rfl)
def aw106:Fact:=⟨71,[(.int .i64 0),(.int .i64 3)],(.int .i64 0),none⟩
theorem Zqt:Zah Try.prog aw106.f aw106.args aw106.r aw106.fr:=Zaa (n:=100000) (l:=[]) follows Zad trivial (by kernel_rfl)
def aw107:Fact:=⟨117,[(.int .i64 3)],(.int .i64 8),none⟩
theorem ZrO:Zah Try.prog aw107.f aw107.args aw107.r aw107.fr:=Zaa (n:=100000) (l:=[aw71,aw72,aw73]) follows Zad ⟨ZaM,⟨ZaQ,⟨ZaY,trivial⟩⟩⟩ (by kernel_rfl)
def aw108:Fact:=⟨71,[(.int .i64 0),(.int .i64 8)],(.int .i64 0),none⟩
theorem Zk1:Zah Try.prog aw108.f aw108.args aw108.r aw108.fr:=Zaa (n:=100000) (l:=[]) follows Zad trivial (by kernel_rfl)
def aw109:Fact:=⟨117,[(.int .i64 2)],(.int .i64 4),none⟩
theorem Zic:Zah Try.prog aw109.f aw109.args aw109.r aw109.fr:=Zaa (n:=100000) (l:=[aw71,aw72]) follows Zad ⟨ZaM,⟨ZaQ,trivial⟩⟩ (by kernel_rfl)
def aw110:Fact:=⟨71,[(.int .i64 1),(.int .i64 4)],(.int .i64 4),none⟩
theorem Zl5:Zah Try.prog aw110.f aw110.args aw110.r aw110.fr:=Zaa (n:=100000) (l:=[]) follows Zad trivial (by kernel_rfl)
def aw111:Fact:=⟨117,[(.int .i64 1)],(.int .i64 2),none⟩
theorem Zl7:Zah Try.prog aw111.f aw111.args aw111.r aw111.fr:=Zaa (n:=100000) (l:=[aw71]) follows Zad ⟨ZaM,trivial⟩ (by kernel_rfl)
def aw112:Fact:=⟨71,[(.int .i64 0),(.int .i64 2)],(.int .i64 0),none⟩
theorem Zli:Zah Try.prog aw112.f aw112.args aw112.r aw112.fr:=Zaa (n:=100000) (l:=[]) follows Zad trivial (by kernel_rfl)
def aw113:Fact:=⟨117,[(.int .i64 0)],(.int .i64 1),none⟩
theorem ZhU:Zah Try.prog aw113.f aw113.args aw113.r aw113.fr:=Zaa (n:=100000) (l:=[]) follows Zad trivial (by kernel_rfl)
def aw114:Fact:=⟨71,[(.int .i64 0),(.int .i64 1)],(.int .i64 0),none⟩
theorem Zld:Zah Try.prog aw114.f aw114.args aw114.r aw114.fr:=Zaa (n:=100000) (l:=[]) follows Zad trivial (by kernel_rfl)
def aw115:Fact:=⟨112,[(.agg (.ints .i64 [0,0,0,0,0,0,0,0,0,0,0,0,1,0,0])),(.int .i64 1)],(.int .i64 4),none⟩
theorem Zp6:Zah Try.prog aw115.f aw115.args aw115.r aw115.fr:=Zaa (n:=100000) (l:=[aw85,aw86,aw87,aw88,aw89,aw90,aw91,aw92,aw93,aw94,aw95,aw96,aw97,aw98,aw99,aw100,aw101,aw102,aw103,aw104,aw105,aw106,aw107,aw108,aw109,aw110,aw111,aw112,aw113,aw114]) follows Zad ⟨ZoZ,⟨Zki,⟨Zvs,⟨ZnC,⟨Zo6,⟨Zoy,⟨Zuf,⟨Zkj,⟨Zpq,⟨Zne,⟨Ztq,⟨Zph,⟨ZoI,⟨Zox,⟨ZsN,⟨Zlf,⟨Zl0,⟨Zk7,⟨Zqk,⟨ZlL,⟨Zlq,⟨Zqt,⟨ZrO,⟨Zk1,⟨Zic,⟨Zl5,⟨Zl7,⟨Zli,⟨ZhU,⟨Zld,trivial⟩⟩⟩⟩⟩⟩⟩⟩⟩⟩⟩⟩⟩⟩⟩⟩⟩⟩⟩⟩⟩⟩⟩⟩⟩⟩⟩⟩⟩⟩ (by kernel_rfl)
def aw116:Fact:=⟨117,[(.int .i64 28)],(.int .i64 13),none⟩
theorem ZpA:Zah Try.prog aw116.f aw116.args aw116.r aw116.fr:=Zaa (n:=100000) (l:=[aw71,aw72,aw73,aw74,aw75,aw76,aw77,aw78,aw79,aw80,aw81,aw82,aw83]) follows Zad ⟨ZaM,⟨ZaQ,⟨ZaY,⟨Zbc,⟨Zbb,⟨Zbp,⟨ZbI,⟨Zb5,⟨Zcr,⟨ZdO,⟨Ze1,⟨Zim,⟨Zkx,trivial⟩⟩⟩⟩⟩⟩⟩⟩⟩⟩⟩⟩⟩ (by kernel_rfl)
def aw117:Fact:=⟨117,[(.int .i64 26)],(.int .i64 14),none⟩
theorem Zqa:Zah Try.prog aw117.f aw117.args aw117.r aw117.fr:=Zaa (n:=100000) (l:=[aw71,aw72,aw73,aw74,aw75,aw76,aw77,aw78,aw79,aw80,aw81]) follows Zad ⟨ZaM,⟨ZaQ,⟨ZaY,⟨Zbc,⟨Zbb,⟨Zbp,⟨ZbI,⟨Zb5,⟨Zcr,⟨ZdO,⟨Ze1,trivial⟩⟩⟩⟩⟩⟩⟩⟩⟩⟩⟩ (by kernel_rfl)
def aw118:Fact:=⟨117,[(.int .i64 24)],(.int .i64 10),none⟩
theorem Zqo:Zah Try.prog aw118.f aw118.args aw118.r aw118.fr:=Zaa (n:=100000) (l:=[aw71,aw72,aw73,aw74,aw75,aw76,aw77,aw78,aw79]) follows Zad ⟨ZaM,⟨ZaQ,⟨ZaY,⟨Zbc,⟨Zbb,⟨Zbp,⟨ZbI,⟨Zb5,⟨Zcr,trivial⟩⟩⟩⟩⟩⟩⟩⟩⟩ (by kernel_rfl)
def aw119:Fact:=⟨117,[(.int .i64 22)],(.int .i64 11),none⟩
theorem ZqR:Zah Try.prog aw119.f aw119.args aw119.r aw119.fr:=Zaa (n:=100000) (l:=[aw71,aw72,aw73,aw74,aw75,aw76,aw77]) follows Zad ⟨ZaM,⟨ZaQ,⟨ZaY,⟨Zbc,⟨Zbb,⟨Zbp,⟨ZbI,trivial⟩⟩⟩⟩⟩⟩⟩ (by kernel_rfl)
def aw120:Fact:=⟨117,[(.int .i64 20)],(.int .i64 6),none⟩
theorem ZqY:Zah Try.prog aw120.f aw120.args aw120.r aw120.fr:=Zaa (n:=100000) (l:=[aw71,aw72,aw73,aw74,aw75]) follows Zad ⟨ZaM,⟨ZaQ,⟨ZaY,⟨Zbc,⟨Zbb,trivial⟩⟩⟩⟩⟩ (by kernel_rfl)
def aw121:Fact:=⟨117,[(.int .i64 18)],(.int .i64 8),none⟩
theorem Zq7:Zah Try.prog aw121.f aw121.args aw121.r aw121.fr:=Zaa (n:=100000) (l:=[aw71,aw72,aw73]) follows Zad ⟨ZaM,⟨ZaQ,⟨ZaY,trivial⟩⟩⟩ (by kernel_rfl)
def aw122:Fact:=⟨117,[(.int .i64 16)],(.int .i64 2),none⟩
theorem ZrV:Zah Try.prog aw122.f aw122.args aw122.r aw122.fr:=Zaa (n:=100000) (l:=[aw71]) follows Zad ⟨ZaM,trivial⟩ (by kernel_rfl)
def aw123:Fact:=⟨71,[(.int .i64 1),(.int .i64 3)],(.int .i64 3),none⟩
theorem Zqb:Zah Try.prog aw123.f aw123.args aw123.r aw123.fr:=Zaa (n:=100000) (l:=[]) follows Zad trivial (by kernel_rfl)
def aw124:Fact:=⟨71,[(.int .i64 0),(.int .i64 4)],(.int .i64 0),none⟩
theorem Zq2:Zah Try.prog aw124.f aw124.args aw124.r aw124.fr:=Zaa (n:=100000) (l:=[]) follows Zad trivial (by kernel_rfl)
def aw125:Fact:=⟨112,[(.agg (.ints .i64 [0,0,0,0,0,0,0,0,0,0,0,0,1,0,0])),(.int .i64 2)],(.int .i64 3),none⟩
theorem ZqP:Zah Try.prog aw125.f aw125.args aw125.r aw125.fr:=Zaa (n:=100000) (l:=[aw116,aw88,aw117,aw92,aw118,aw96,aw119,aw100,aw120,aw104,aw121,aw108,aw122,aw112,aw85,aw86,aw89,aw90,aw93,aw94,aw97,aw98,aw101,aw102,aw105,aw123,aw109,aw124,aw113,aw114]) follows Zad ⟨ZpA,⟨ZnC,⟨Zqa,⟨Zkj,⟨Zqo,⟨Zph,⟨ZqR,⟨Zlf,⟨ZqY,⟨ZlL,⟨Zq7,⟨Zk1,⟨ZrV,⟨Zli,⟨ZoZ,⟨Zki,⟨Zo6,⟨Zoy,⟨Zpq,⟨Zne,⟨ZoI,⟨Zox,⟨Zl0,⟨Zk7,⟨Zlq,⟨Zqb,⟨Zic,⟨Zq2,⟨ZhU,⟨Zld,trivial⟩⟩⟩⟩⟩⟩⟩⟩⟩⟩⟩⟩⟩⟩⟩⟩⟩⟩⟩⟩⟩⟩⟩⟩⟩⟩⟩⟩⟩⟩ (by kernel_rfl)
def aw126:Fact:=⟨75,[(.agg (.ints .i64 [0,0,0,0,0,0,0,0,0,0,0,0,1,0,0])),(.int .i64 1)],(.row 0 0),(some ⟨3,1,(.ints .i64 [4,3])⟩)⟩
theorem Zp5:Zah Try.prog aw126.f aw126.args aw126.r aw126.fr:=Zaa (n:=100000) (l:=[aw115,aw125]) follows Zad ⟨Zp6,⟨ZqP,trivial⟩⟩ (by kernel_rfl)
def aw127:Fact:=⟨71,[(.int .i64 2),(.int .i64 1)],(.int .i64 2),none⟩
theorem ZqV:Zah Try.prog aw127.f aw127.args aw127.r aw127.fr:=Zaa (n:=100000) (l:=[]) follows Zad trivial (by kernel_rfl)
def aw128:Fact:=⟨71,[(.int .i64 2),(.int .i64 3)],(.int .i64 6),none⟩
theorem ZpB:Zah Try.prog aw128.f aw128.args aw128.r aw128.fr:=Zaa (n:=100000) (l:=[]) follows Zad trivial (by kernel_rfl)
def aw129:Fact:=⟨71,[(.int .i64 2),(.int .i64 4)],(.int .i64 8),none⟩
theorem ZkW:Zah Try.prog aw129.f aw129.args aw129.r aw129.fr:=Zaa (n:=100000) (l:=[]) follows Zad trivial (by kernel_rfl)
def aw130:Fact:=⟨71,[(.int .i64 2),(.int .i64 5)],(.int .i64 10),none⟩
theorem Zp0:Zah Try.prog aw130.f aw130.args aw130.r aw130.fr:=Zaa (n:=100000) (l:=[]) follows Zad trivial (by kernel_rfl)
def aw131:Fact:=⟨71,[(.int .i64 2),(.int .i64 6)],(.int .i64 12),none⟩
theorem ZrW:Zah Try.prog aw131.f aw131.args aw131.r aw131.fr:=Zaa (n:=100000) (l:=[]) follows Zad trivial (by kernel_rfl)
def aw132:Fact:=⟨71,[(.int .i64 2),(.int .i64 7)],(.int .i64 14),none⟩
theorem Zri:Zah Try.prog aw132.f aw132.args aw132.r aw132.fr:=Zaa (n:=100000) (l:=[]) follows Zad trivial (by kernel_rfl)
def aw133:Fact:=⟨71,[(.int .i64 2),(.int .i64 8)],(.int .i64 3),none⟩
theorem Zqc:Zah Try.prog aw133.f aw133.args aw133.r aw133.fr:=Zaa (n:=100000) (l:=[]) follows Zad trivial (by kernel_rfl)
def aw134:Fact:=⟨71,[(.int .i64 2),(.int .i64 9)],(.int .i64 1),none⟩
theorem ZlK:Zah Try.prog aw134.f aw134.args aw134.r aw134.fr:=Zaa (n:=100000) (l:=[]) follows Zad trivial (by kernel_rfl)
def aw135:Fact:=⟨128,[(.int .i64 2)],(.int .i64 9),none⟩
theorem Zpv:Zah Try.prog aw135.f aw135.args aw135.r aw135.fr:=Zaa (n:=100000) (l:=[aw127,aw72,aw128,aw129,aw130,aw131,aw132,aw133,aw134]) follows Zad ⟨ZqV,⟨ZaQ,⟨ZpB,⟨ZkW,⟨Zp0,⟨ZrW,⟨Zri,⟨Zqc,⟨ZlK,trivial⟩⟩⟩⟩⟩⟩⟩⟩⟩ (by kernel_rfl)
def aw136:Fact:=⟨71,[(.int .i64 1),(.int .i64 9)],(.int .i64 9),none⟩
theorem Zpw:Zah Try.prog aw136.f aw136.args aw136.r aw136.fr:=Zaa (n:=100000) (l:=[]) follows Zad trivial (by kernel_rfl)
def aw137:Fact:=⟨71,[(.int .i64 4),(.int .i64 9)],(.int .i64 2),none⟩
theorem Zrx:Zah Try.prog aw137.f aw137.args aw137.r aw137.fr:=Zaa (n:=100000) (l:=[]) follows Zad trivial (by kernel_rfl)
def aw138:Fact:=⟨71,[(.int .i64 9),(.int .i64 4)],(.int .i64 2),none⟩
theorem ZrN:Zah Try.prog aw138.f aw138.args aw138.r aw138.fr:=Zaa (n:=100000) (l:=[]) follows Zad trivial (by kernel_rfl)
def aw139:Fact:=⟨71,[(.int .i64 3),(.int .i64 1)],(.int .i64 3),none⟩
theorem Zpy:Zah Try.prog aw139.f aw139.args aw139.r aw139.fr:=Zaa (n:=100000) (l:=[]) follows Zad trivial (by kernel_rfl)
def aw140:Fact:=⟨71,[(.int .i64 3),(.int .i64 3)],(.int .i64 5),none⟩
theorem Zqu:Zah Try.prog aw140.f aw140.args aw140.r aw140.fr:=Zaa (n:=100000) (l:=[]) follows Zad trivial (by kernel_rfl)
def aw141:Fact:=⟨71,[(.int .i64 3),(.int .i64 4)],(.int .i64 12),none⟩
theorem Zqr:Zah Try.prog aw141.f aw141.args aw141.r aw141.fr:=Zaa (n:=100000) (l:=[]) follows Zad trivial (by kernel_rfl)
def aw142:Fact:=⟨71,[(.int .i64 3),(.int .i64 5)],(.int .i64 15),none⟩
theorem Zrf:Zah Try.prog aw142.f aw142.args aw142.r aw142.fr:=Zaa (n:=100000) (l:=[]) follows Zad trivial (by kernel_rfl)
def aw143:Fact:=⟨71,[(.int .i64 3),(.int .i64 6)],(.int .i64 10),none⟩
theorem ZqB:Zah Try.prog aw143.f aw143.args aw143.r aw143.fr:=Zaa (n:=100000) (l:=[]) follows Zad trivial (by kernel_rfl)
def aw144:Fact:=⟨71,[(.int .i64 3),(.int .i64 7)],(.int .i64 9),none⟩
theorem Zrj:Zah Try.prog aw144.f aw144.args aw144.r aw144.fr:=Zaa (n:=100000) (l:=[]) follows Zad trivial (by kernel_rfl)
def aw145:Fact:=⟨71,[(.int .i64 3),(.int .i64 8)],(.int .i64 11),none⟩
theorem ZrT:Zah Try.prog aw145.f aw145.args aw145.r aw145.fr:=Zaa (n:=100000) (l:=[]) follows Zad trivial (by kernel_rfl)
def aw146:Fact:=⟨71,[(.int .i64 3),(.int .i64 9)],(.int .i64 8),none⟩
theorem ZqI:Zah Try.prog aw146.f aw146.args aw146.r aw146.fr:=Zaa (n:=100000) (l:=[]) follows Zad trivial (by kernel_rfl)
def aw147:Fact:=⟨71,[(.int .i64 3),(.int .i64 10)],(.int .i64 13),none⟩
theorem ZqU:Zah Try.prog aw147.f aw147.args aw147.r aw147.fr:=Zaa (n:=100000) (l:=[]) follows Zad trivial (by kernel_rfl)
def aw148:Fact:=⟨71,[(.int .i64 3),(.int .i64 11)],(.int .i64 14),none⟩
theorem Zqp:Zah Try.prog aw148.f aw148.args aw148.r aw148.fr:=Zaa (n:=100000) (l:=[]) follows Zad trivial (by kernel_rfl)
def aw149:Fact:=⟨71,[(.int .i64 3),(.int .i64 12)],(.int .i64 7),none⟩
theorem ZqH:Zah Try.prog aw149.f aw149.args aw149.r aw149.fr:=Zaa (n:=100000) (l:=[]) follows Zad trivial (by kernel_rfl)
def aw150:Fact:=⟨71,[(.int .i64 3),(.int .i64 13)],(.int .i64 4),none⟩
theorem Zq5:Zah Try.prog aw150.f aw150.args aw150.r aw150.fr:=Zaa (n:=100000) (l:=[]) follows Zad trivial (by kernel_rfl)
def aw151:Fact:=⟨71,[(.int .i64 3),(.int .i64 14)],(.int .i64 1),none⟩
theorem Zk6:Zah Try.prog aw151.f aw151.args aw151.r aw151.fr:=Zaa (n:=100000) (l:=[]) follows Zad trivial (by kernel_rfl)
def aw152:Fact:=⟨128,[(.int .i64 3)],(.int .i64 14),none⟩
theorem ZpE:Zah Try.prog aw152.f aw152.args aw152.r aw152.fr:=Zaa (n:=100000) (l:=[aw139,aw75,aw140,aw141,aw142,aw143,aw144,aw145,aw146,aw147,aw148,aw149,aw150,aw151]) follows Zad ⟨Zpy,⟨Zbb,⟨Zqu,⟨Zqr,⟨Zrf,⟨ZqB,⟨Zrj,⟨ZrT,⟨ZqI,⟨ZqU,⟨Zqp,⟨ZqH,⟨Zq5,⟨Zk6,trivial⟩⟩⟩⟩⟩⟩⟩⟩⟩⟩⟩⟩⟩⟩ (by kernel_rfl)
def aw153:Fact:=⟨71,[(.int .i64 11),(.int .i64 14)],(.int .i64 8),none⟩
theorem Zqe:Zah Try.prog aw153.f aw153.args aw153.r aw153.fr:=Zaa (n:=100000) (l:=[]) follows Zad trivial (by kernel_rfl)
def aw154:Fact:=⟨71,[(.int .i64 8),(.int .i64 9)],(.int .i64 4),none⟩
theorem Zrr:Zah Try.prog aw154.f aw154.args aw154.r aw154.fr:=Zaa (n:=100000) (l:=[]) follows Zad trivial (by kernel_rfl)
def aw155:Fact:=⟨92,[(.agg (.ints .i64 [0,0,0,0,0,0,0,0,0,0,0,0,1,0,0])),(.int .i64 1),(.list (.ints .i64 [13,14]))],(.tup [(.agg (.ints .i64 [0,0,0,0,0,0,0,0,0,0,0,0,1,6,8])),(.bool true)]),none⟩
theorem Zqx:Zah Try.prog aw155.f aw155.args aw155.r aw155.fr:=Zaa (n:=100000) (l:=[aw126,aw111,aw113,aw109,aw135,aw134,aw136,aw137,aw110,aw138,aw129,aw152,aw92,aw151,aw153,aw86,aw154]) follows Zad ⟨Zp5,⟨Zl7,⟨ZhU,⟨Zic,⟨Zpv,⟨ZlK,⟨Zpw,⟨Zrx,⟨Zl5,⟨ZrN,⟨ZkW,⟨ZpE,⟨Zkj,⟨Zk6,⟨Zqe,⟨Zki,⟨Zrr,trivial⟩⟩⟩⟩⟩⟩⟩⟩⟩⟩⟩⟩⟩⟩⟩⟩⟩ (by kernel_rfl)
def aw156:Fact:=⟨76,[(.int .i64 1),(.list (.ints .i64 [0,0,0,0,0,0,0,0,0,0,0,0,1]))],(.agg (.ints .i64 [0,0,0,0,0,0,0,0,0,0,0,0,1,6,8])),none⟩
theorem ZqJ:Zah Try.prog aw156.f aw156.args aw156.r aw156.fr:=Zaa (n:=100000) (l:=[aw155]) follows Zad ⟨Zqx,trivial⟩ (by kernel_rfl)
def aw157:Fact:=⟨62,[],(.agg (.gen [(.int .i64 3),(.list (.gen [(.list (.ints .i64 [0,1])),(.list (.ints .i64 [1,2]))]))])),none⟩
theorem ZqN:Zah Try.prog aw157.f aw157.args aw157.r aw157.fr:=Zaa (n:=100000) (l:=[]) follows Zad trivial (by kernel_rfl)
def aw158:Fact:=⟨91,[(.int .i64 3),(.int .i64 1),(.int .i64 24)],(.bool true),none⟩
theorem ZrR:Zah Try.prog aw158.f aw158.args aw158.r aw158.fr:=Zaa (n:=100000) (l:=[]) follows Zad trivial (by kernel_rfl)
def aw159:Fact:=⟨91,[(.int .i64 0),(.int .i64 0),(.int .i64 2)],(.bool true),none⟩
theorem Zre:Zah Try.prog aw159.f aw159.args aw159.r aw159.fr:=Zaa (n:=100000) (l:=[]) follows Zad trivial (by kernel_rfl)
def aw160:Fact:=⟨85,[(.bool true),(.int .i64 6)],(.int .i64 0),none⟩
theorem ZpS:Zah Try.prog aw160.f aw160.args aw160.r aw160.fr:=Zaa (n:=100000) (l:=[]) follows Zad trivial (by kernel_rfl)
def aw161:Fact:=⟨85,[(.bool true),(.int .i64 9)],(.int .i64 0),none⟩
theorem ZqW:Zah Try.prog aw161.f aw161.args aw161.r aw161.fr:=Zaa (n:=100000) (l:=[]) follows Zad trivial (by kernel_rfl)
def aw162:Fact:=⟨91,[(.int .i64 1),(.int .i64 0),(.int .i64 2)],(.bool true),none⟩
theorem ZpR:Zah Try.prog aw162.f aw162.args aw162.r aw162.fr:=Zaa (n:=100000) (l:=[]) follows Zad trivial (by kernel_rfl)
def aw163:Fact:=⟨91,[(.int .i64 2),(.int .i64 0),(.int .i64 2)],(.bool true),none⟩
theorem Zq6:Zah Try.prog aw163.f aw163.args aw163.r aw163.fr:=Zaa (n:=100000) (l:=[]) follows Zad trivial (by kernel_rfl)
def aw164:Fact:=⟨132,[(.agg (.gen [(.int .i64 3),(.list (.gen [(.list (.ints .i64 [0,1])),(.list (.ints .i64 [1,2]))]))]))],(.tup [(.int .i64 0),(.int .i64 0)]),none⟩
theorem Zrs:Zah Try.prog aw164.f aw164.args aw164.r aw164.fr:=Zaa (n:=100000) (l:=[aw158,aw9,aw13,aw69,aw159,aw160,aw161,aw162,aw163]) follows Zad ⟨ZrR,⟨ZgB,⟨Znt,⟨ZhS,⟨Zre,⟨ZpS,⟨ZqW,⟨ZpR,⟨Zq6,trivial⟩⟩⟩⟩⟩⟩⟩⟩⟩ (by kernel_rfl)
def aw165:Fact:=⟨120,[(.agg (.gen [(.int .i64 3),(.list (.gen [(.list (.ints .i64 [0,1])),(.list (.ints .i64 [1,2]))]))]))],(.int .i64 0),none⟩
theorem ZqT:Zah Try.prog aw165.f aw165.args aw165.r aw165.fr:=Zaa (n:=100000) (l:=[aw164]) follows Zad ⟨Zrs,trivial⟩ (by kernel_rfl)
def aw166:Fact:=⟨91,[(.int .i64 1),(.int .i64 0),(.int .i64 1)],(.bool true),none⟩
theorem ZrJ:Zah Try.prog aw166.f aw166.args aw166.r aw166.fr:=Zaa (n:=100000) (l:=[]) follows Zad trivial (by kernel_rfl)
def aw167:Fact:=⟨111,[(.int .i64 1),(.eptr (.int .i64 0) 0),(.eptr (.int .i64 1) 0)],(.bool false),none⟩
theorem Zrm:Zah Try.prog aw167.f aw167.args aw167.r aw167.fr:=Zaa (n:=100000) (l:=[aw166]) follows Zad ⟨ZrJ,trivial⟩ (by kernel_rfl)
def aw168:Fact:=⟨91,[(.int .i64 0),(.int .i64 0),(.int .i64 1)],(.bool true),none⟩
theorem Zrt:Zah Try.prog aw168.f aw168.args aw168.r aw168.fr:=Zaa (n:=100000) (l:=[]) follows Zad trivial (by kernel_rfl)
def aw169:Fact:=⟨111,[(.int .i64 0),(.eptr (.int .i64 0) 0),(.eptr (.int .i64 1) 0)],(.bool false),none⟩
theorem Zru:Zah Try.prog aw169.f aw169.args aw169.r aw169.fr:=Zaa (n:=100000) (l:=[aw168]) follows Zad ⟨Zrt,trivial⟩ (by kernel_rfl)
def aw170:Fact:=⟨123,[(.list (.ints .i64 [1,0,0])),(.fn 111 [(.eptr (.int .i64 0) 0),(.eptr (.int .i64 1) 0)])],(.int .i64 (-1)),none⟩
theorem ZrP:Zah Try.prog aw170.f aw170.args aw170.r aw170.fr:=Zaa (n:=100000) (l:=[aw167,aw169]) follows Zad ⟨Zrm,⟨Zru,trivial⟩⟩ (by kernel_rfl)
def aw171:Fact:=⟨110,[(.list (.ints .i64 [1,0,0])),(.fn 111 [(.eptr (.int .i64 0) 0),(.eptr (.int .i64 1) 0)])],(.bool false),none⟩
theorem Zq1:Zah Try.prog aw171.f aw171.args aw171.r aw171.fr:=Zaa (n:=100000) (l:=[aw170]) follows Zad ⟨ZrP,trivial⟩ (by kernel_rfl)
def aw172:Fact:=⟨70,[(.list (.ints .i64 [1,0,0])),(.int .i64 0),(.int .i64 1)],(.int .i64 0),none⟩
theorem ZpJ:Zah Try.prog aw172.f aw172.args aw172.r aw172.fr:=Zaa (n:=100000) (l:=[aw171,aw9]) follows Zad ⟨Zq1,⟨ZgB,trivial⟩⟩ (by kernel_rfl)
def aw173:Fact:=⟨103,[(.agg (.gen [(.int .i64 3),(.list (.gen [(.list (.ints .i64 [0,1])),(.list (.ints .i64 [1,2]))]))])),(.list (.ints .i64 [1,0,0]))],(.int .i64 0),none⟩
theorem Zpz:Zah Try.prog aw173.f aw173.args aw173.r aw173.fr:=Zaa (n:=100000) (l:=[aw165,aw12,aw172,aw21]) follows Zad ⟨ZqT,⟨ZkU,⟨ZpJ,⟨Zng,trivial⟩⟩⟩⟩ (by kernel_rfl)
def aw174:Fact:=⟨91,[(.int .i64 5),(.int .i64 0),(.int .i64 30)],(.bool true),none⟩
theorem Zrp:Zah Try.prog aw174.f aw174.args aw174.r aw174.fr:=Zaa (n:=100000) (l:=[]) follows Zad trivial (by kernel_rfl)
def aw175:Fact:=⟨104,[(.list (.ints .i64 [1,0,0]))],(.row 0 0),(some ⟨3,1,(.ints .i64 [1,0,0])⟩)⟩
theorem ZlQ:Zah Try.prog aw175.f aw175.args aw175.r aw175.fr:=Zf0 _ (by decide)
def aw176:Fact:=⟨105,[(.agg (.gen [(.int .i64 3),(.list (.gen [(.list (.ints .i64 [0,1])),(.list (.ints .i64 [1,2]))]))])),(.list (.ints .i64 [1,0,0]))],(.row 0 0),(some ⟨3,1,(.ints .i64 [0])⟩)⟩
theorem ZlD:Zah Try.prog aw176.f aw176.args aw176.r aw176.fr:=Zaa (n:=100000) (l:=[]) follows Zad trivial (by kernel_rfl)
def aw177:Fact:=⟨133,[(.list (.ints .i64 [0])),(.int .i64 0)],(.int .i64 0),none⟩
theorem ZrE:Zah Try.prog aw177.f aw177.args aw177.r aw177.fr:=Zaa (n:=100000) (l:=[]) follows Zad trivial (by kernel_rfl)
def aw178:Fact:=⟨121,[(.list (.ints .i64 [0])),(.int .i64 0)],(.bool true),none⟩
theorem Zpu:Zah Try.prog aw178.f aw178.args aw178.r aw178.fr:=Zaa (n:=100000) (l:=[aw177]) follows Zad ⟨ZrE,trivial⟩ (by kernel_rfl)
def aw179:Fact:=⟨133,[(.list (.ints .i64 [0])),(.int .i64 1)],(.int .i64 (-1)),none⟩
theorem ZqD:Zah Try.prog aw179.f aw179.args aw179.r aw179.fr:=Zaa (n:=100000) (l:=[]) follows Zad trivial (by kernel_rfl)
def aw180:Fact:=⟨121,[(.list (.ints .i64 [0])),(.int .i64 1)],(.bool false),none⟩
theorem ZrB:Zah Try.prog aw180.f aw180.args aw180.r aw180.fr:=Zaa (n:=100000) (l:=[aw179]) follows Zad ⟨ZqD,trivial⟩ (by kernel_rfl)
def aw181:Fact:=⟨106,[(.agg (.gen [(.int .i64 3),(.list (.gen [(.list (.ints .i64 [0,1])),(.list (.ints .i64 [1,2]))]))])),(.list (.ints .i64 [1,0,0]))],(.row 0 0),(some ⟨3,1,(.ints .i64 [0,0,0])⟩)⟩
theorem Zqd:Zah Try.prog aw181.f aw181.args aw181.r aw181.fr:=Zaa (n:=100000) (l:=[aw176,aw178,aw180,aw175]) follows Zad ⟨ZlD,⟨Zpu,⟨ZrB,⟨ZlQ,trivial⟩⟩⟩⟩ (by kernel_rfl)
def aw182:Fact:=⟨105,[(.agg (.gen [(.int .i64 3),(.list (.gen [(.list (.ints .i64 [0,1])),(.list (.ints .i64 [1,2]))]))])),(.list (.ints .i64 [0,0,0]))], .nils,none⟩
theorem Zrb:Zah Try.prog aw182.f aw182.args aw182.r aw182.fr:=Zaa (n:=100000) (l:=[]) follows Zad trivial (by kernel_rfl)
def aw183:Fact:=⟨61,[(.agg (.gen [(.int .i64 3),(.list (.gen [(.list (.ints .i64 [0,1])),(.list (.ints .i64 [1,2]))]))])),(.list (.ints .i64 [1,0,0])),(.int .i64 5)],(.tup [(.row 0 0),(.int .i64 1),(.int .i64 0)]),(some ⟨3,1,(.ints .i64 [0,0,0])⟩)⟩
theorem ZpZ:Zah Try.prog aw183.f aw183.args aw183.r aw183.fr:=Zaa (n:=100000) (l:=[aw173,aw174,aw9,aw69,aw175,aw176,aw181,aw182]) follows Zad ⟨Zpz,⟨Zrp,⟨ZgB,⟨ZhS,⟨ZlQ,⟨ZlD,⟨Zqd,⟨Zrb,trivial⟩⟩⟩⟩⟩⟩⟩⟩ (by kernel_rfl)
def aw184:Fact:=⟨83,[(.list (.ints .i64 [100000])),(.int .i64 4)],(.row 0 0),(some ⟨3,1,(.ints .i64 [100000,100000,100000,100000])⟩)⟩
theorem Zrw:Zah Try.prog aw184.f aw184.args aw184.r aw184.fr:=Zaa (n:=100000) (l:=[aw26]) follows Zad ⟨Zo7,trivial⟩ (by kernel_rfl)
def aw185:Fact:=⟨81,[(.int .i64 0),(.int .i64 1),(.eptr (.agg (.gen [(.int .i64 2),(.int .i64 7),(.int .i64 5)])) 0)],(.tup [(.int .i64 2),(.int .i64 2)]),none⟩
theorem Zq3:Zah Try.prog aw185.f aw185.args aw185.r aw185.fr:=Zaa (n:=100000) (l:=[aw47]) follows Zad ⟨ZnU,trivial⟩ (by kernel_rfl)
def aw186:Fact:=⟨81,[(.int .i64 1),(.int .i64 0),(.eptr (.agg (.gen [(.int .i64 2),(.int .i64 7),(.int .i64 5)])) 0)],(.tup [(.int .i64 0),(.int .i64 2)]),none⟩
theorem ZqZ:Zah Try.prog aw186.f aw186.args aw186.r aw186.fr:=Zaa (n:=100000) (l:=[aw35]) follows Zad ⟨ZoK,trivial⟩ (by kernel_rfl)
def aw187:Fact:=⟨81,[(.int .i64 1),(.int .i64 1),(.eptr (.agg (.gen [(.int .i64 2),(.int .i64 7),(.int .i64 5)])) 0)],(.tup [(.int .i64 2),(.int .i64 0)]),none⟩
theorem ZrK:Zah Try.prog aw187.f aw187.args aw187.r aw187.fr:=Zaa (n:=100000) (l:=[aw50]) follows Zad ⟨ZoE,trivial⟩ (by kernel_rfl)
def aw188:Fact:=⟨81,[(.int .i64 2),(.int .i64 0),(.eptr (.agg (.gen [(.int .i64 2),(.int .i64 7),(.int .i64 5)])) 0)],(.tup [(.int .i64 1),(.int .i64 1)]),none⟩
theorem Zp8:Zah Try.prog aw188.f aw188.args aw188.r aw188.fr:=Zaa (n:=100000) (l:=[aw39]) follows Zad ⟨ZnN,trivial⟩ (by kernel_rfl)
def aw189:Fact:=⟨81,[(.int .i64 2),(.int .i64 1),(.eptr (.agg (.gen [(.int .i64 2),(.int .i64 7),(.int .i64 5)])) 0)],(.tup [(.int .i64 3),(.int .i64 1)]),none⟩
theorem Zrk:Zah Try.prog aw189.f aw189.args aw189.r aw189.fr:=Zaa (n:=100000) (l:=[aw53]) follows Zad ⟨Zo9,trivial⟩ (by kernel_rfl)
def aw190:Fact:=⟨81,[(.int .i64 3),(.int .i64 0),(.eptr (.agg (.gen [(.int .i64 2),(.int .i64 7),(.int .i64 5)])) 0)],(.tup [(.int .i64 1),(.int .i64 1)]),none⟩
theorem ZrS:Zah Try.prog aw190.f aw190.args aw190.r aw190.fr:=Zaa (n:=100000) (l:=[aw42]) follows Zad ⟨Zn8,trivial⟩ (by kernel_rfl)
def aw191:Fact:=⟨81,[(.int .i64 3),(.int .i64 1),(.eptr (.agg (.gen [(.int .i64 2),(.int .i64 7),(.int .i64 5)])) 0)],(.tup [(.int .i64 3),(.int .i64 1)]),none⟩
theorem ZpC:Zah Try.prog aw191.f aw191.args aw191.r aw191.fr:=Zaa (n:=100000) (l:=[aw56]) follows Zad ⟨ZoJ,trivial⟩ (by kernel_rfl)
def aw192:Fact:=⟨32,[(.agg (.gen [(.int .i64 2),(.int .i64 7),(.int .i64 5)]))],(.tup [(.int .i64 5),(.int .i64 0)]),none⟩
theorem Zqh:Zah Try.prog aw192.f aw192.args aw192.r aw192.fr:=Zaa (n:=100000) (l:=[aw11,aw184,aw185,aw186,aw187,aw188,aw189,aw190,aw191]) follows Zad ⟨Zos,⟨Zrw,⟨Zq3,⟨ZqZ,⟨ZrK,⟨Zp8,⟨Zrk,⟨ZrS,⟨ZpC,trivial⟩⟩⟩⟩⟩⟩⟩⟩⟩ (by kernel_rfl)
def aw193:Fact:=⟨17,[(.list (.ints .i64 [1,0])),(.list (.ints .i64 [1,0]))],(.bool true),none⟩
theorem ZpW:Zah Try.prog aw193.f aw193.args aw193.r aw193.fr:=Zaa (n:=100000) (l:=[]) follows Zad trivial (by kernel_rfl)
def aw194:Fact:=⟨17,[(.list (.ints .i64 [0,0,0])),(.list (.ints .i64 [0,0,0]))],(.bool true),none⟩
theorem ZqO:Zah Try.prog aw194.f aw194.args aw194.r aw194.fr:=Zaa (n:=100000) (l:=[]) follows Zad trivial (by kernel_rfl)
def aw195:Fact:=⟨12,[],(.bool true),none⟩
theorem ZpG:Zah Try.prog aw195.f aw195.args aw195.r aw195.fr:=Zaa (n:=100000) (l:=[aw0,aw1,aw58,aw59,aw61,aw70,aw69,aw156,aw157,aw183,aw192,aw193,aw194]) follows Zad ⟨ZyL,⟨Zyq,⟨Ztj,⟨ZsU,⟨Zvb,⟨Ztc,⟨ZhS,⟨ZqJ,⟨ZqN,⟨ZpZ,⟨Zqh,⟨ZpW,⟨ZqO,trivial⟩⟩⟩⟩⟩⟩⟩⟩⟩⟩⟩⟩⟩ (by kernel_rfl)
end Go.Proofs.Ytklbmkllepkjcaa
/- Contracts as a list. No condition. -/
namespace Go.Proofs.Ytklbmkllepkjcaa
def blW(m p q:Int)(so:List Int):List Int:=if cdW m p q so=0 then blI m p q so else []
def bvW(m p q:Int)(so:List Int):Int:=if cdW m p q so=0 then bvI m p q so else 0
theorem Zyl{m p q:Int}{so:List Int}(h:cdW m p q so=0):OkC m p q so:=by
 unfold cdW at h
 split at h
 ·contradiction
 ·rename_i h1
  have h1:Zaw m p q=0:=Classical.not_not.1 h1
  have hm:=(Zan h1).1
  exact⟨h1,by rw[←ZsJ (by omega)];exact h⟩
theorem Zu0{m p q:Int}{so:List Int} :cdW m p q so=cdE m p q so:=by
 unfold cdW cdE
 split
 ·rfl
 ·rename_i h1
  have h1:Zaw m p q=0:=Classical.not_not.1 h1
  have hm:=(Zan h1).1
  exact ZsJ (by omega)
theorem Zum(m p q:Int)(so:List Int)(hl:so.length≤1000000):Zah Try.prog 13 [.agg (.gen [.int .i64 m, .int .i64 p, .int .i64 q]), .list (.ints .i64 so)] (.tup [.list (.ints .i64 (blW m p q so)), .int .i64 (bvW m p q so), .int .i64 (cdW m p q so)]) Zrc:=by
 refine Zr5 (Zuk m p q so) fun C hC=>Zzo hC ZnG ZzM ?_
 by_cases h1:Zaw m p q=0
 ·by_cases h2:sfW m so=0
  ·have e1:cdW m p q so=0:=by simp[cdW,h1,h2]
   have ho:=okI_iff.2 (Zyl e1)
   simp[ZqL,h1,h2,hl,ho,blW,bvW,e1]
   exact⟨_, .same _, .tup ⟨.row _ rfl rfl rfl, .same _ rfl rfl, .same _ rfl rfl,trivial⟩,rfl⟩
  ·have e1:cdW m p q so=sfW m so:=by simp[cdW,h1]
   simp[ZqL,h1,h2,hl,blW,bvW,e1]
   exact⟨_, .same _, .tup ⟨.nil _ rfl, .same _ rfl rfl, .same _ rfl rfl,trivial⟩,rfl⟩
 ·have e1:cdW m p q so=Zaw m p q:=by simp[cdW,h1]
  simp[ZqL,h1,blW,bvW,e1]
  exact⟨_, .same _, .tup ⟨.nil _ rfl, .same _ rfl rfl, .same _ rfl rfl,trivial⟩,rfl⟩
def k13:Ctr:=⟨13,0,fun _ a=>match a with |[.agg (.gen [.int .i64 m, .int .i64 p, .int .i64 q]), .list (.ints .i64 so)]=>some (decide (so.length≤1000000), .tup [.list (.ints .i64 (blW m p q so)), .int .i64 (bvW m p q so), .int .i64 (cdW m p q so)],Zrc) |_=>none⟩
theorem ZxA:k13.OK Try.prog:=fun pa args r fr h=>by
 simp only[k13]at h
 split at h
 ·simp only[Option.some.injEq,Prod.mk.injEq,decide_eq_true_eq]at h
  obtain⟨h0,rfl,rfl⟩:=h
  exact Zum _ _ _ _ h0
 ·cases h
def k12:Ctr:=⟨12,0,fun _ a=>match a with |[]=>some (true, .bool true,none) |_=>none⟩
theorem Zxs:k12.OK Try.prog:=fun pa args r fr h=>by
 simp only[k12]at h
 split at h
 ·cases h
  exact ZpG
 ·cases h
def J8:List Ctr:=[k13,k12]++J7
theorem Zz0:ZaO Try.prog J8:=⟨ZxA,⟨Zxs,ZnG⟩⟩
end Go.Proofs.Ytklbmkllepkjcaa
/- Paths of functions, printed by the explorer (Gx). No condition. -/
namespace Go.Proofs.Ytklbmkllepkjcaa
set_option maxRecDepth 100000
set_option linter.unusedVariables false
def Zyk(m g0 g1:Int):AFrame:={ fn:=32,N:=82,env:=[(0,AV.agg (Row.gen [.int .i64 m, .int .i64 g0, .int .i64 g1]))],todo:=[.code a32.code],defs:=[],rnd:=none,ret:=false,res:=[ARes.tmp 2,ARes.tmp 3] }
def ZCo(m g0 g1:Int):List AFrame:=[(Zyk m g0 g1)]
theorem ZsP(m g0 g1:Int):Zax tab 32 [AV.agg (Row.gen [.int .i64 m, .int .i64 g0, .int .i64 g1])]=some (Zyk m g0 g1):=rfl
def Zeo(m g0 g1 n0 n1:Int)(l2:List Int)(n3 n4:Int):List AFrame:=[{ fn:=32,N:=82,env:=[(5,AV.fn 81 [AV.ptr 32002 0 0 0]),(6,AV.int .i64 n0),(7,AV.row 32027 0),(10,AV.int .i64 n4),(37,AV.int .i64 n1),(38,AV.int .i64 n3)],todo:=.code (ACode.gh [] Zyc)::Zzy,defs:=[],rnd:=none,ret:=false,res:=[ARes.tmp 2,ARes.tmp 3] }]
def Zc9(m g0 g1 n0 n1:Int)(l2:List Int)(n3 n4:Int):Zab:=[(32002,{ base:=0,blks:=[Blk.row 24 3 (Row.gen [AV.agg (Row.gen [AV.int .i64 m,AV.int .i64 g0,AV.int .i64 g1])])] }),(32027,{ base:=0,blks:=[Blk.row 3 1 (.ints .i64 l2)] })]
abbrev Zhw(m g0 g1 n0 n1:Int)(l2:List Int)(n3 n4:Int):List AFrame×Zab:=(Zeo m g0 g1 n0 n1 l2 n3 n4,Zc9 m g0 g1 n0 n1 l2 n3 n4)
def Zf1(m g0 g1 n0 n1 n3 n5 n6:Int)(l7:List Int):List AFrame:=[{ fn:=32,N:=82,env:=[(5,AV.fn 81 [AV.ptr 32002 0 0 0]),(6,AV.int .i64 n0),(7,AV.row 32027 0),(10,AV.int .i64 n5),(11,AV.int .i64 n6),(37,AV.int .i64 n1),(38,AV.int .i64 n3)],todo:=.code (ACode.gh [] Zx2)::ZAg,defs:=[],rnd:=none,ret:=false,res:=[ARes.tmp 2,ARes.tmp 3] }]
def ZeK(m g0 g1 n0 n1 n3 n5 n6:Int)(l7:List Int):Zab:=[(32002,{ base:=0,blks:=[Blk.row 24 3 (Row.gen [AV.agg (Row.gen [AV.int .i64 m,AV.int .i64 g0,AV.int .i64 g1])])] }),(32027,{ base:=0,blks:=[Blk.row 3 1 (.ints .i64 l7)] })]
abbrev ZgU(m g0 g1 n0 n1 n3 n5 n6:Int)(l7:List Int):List AFrame×Zab:=(Zf1 m g0 g1 n0 n1 n3 n5 n6 l7,ZeK m g0 g1 n0 n1 n3 n5 n6 l7)
def Zel(m g0 g1 n0 n1 n3 n6 n8 n9:Int)(l10:List Int):List AFrame:=[{ fn:=32,N:=82,env:=[(5,AV.fn 81 [AV.ptr 32002 0 0 0]),(6,AV.int .i64 n0),(7,AV.row 32027 0),(10,AV.int .i64 n8),(11,AV.int .i64 n6),(37,AV.int .i64 n1),(38,AV.int .i64 n3),(45,AV.int .i64 n9)],todo:=.code (ACode.gh [] Zy2)::ZzZ,defs:=[],rnd:=none,ret:=false,res:=[ARes.tmp 2,ARes.tmp 3] }]
def Zc2(m g0 g1 n0 n1 n3 n6 n8 n9:Int)(l10:List Int):Zab:=[(32002,{ base:=0,blks:=[Blk.row 24 3 (Row.gen [AV.agg (Row.gen [AV.int .i64 m,AV.int .i64 g0,AV.int .i64 g1])])] }),(32027,{ base:=0,blks:=[Blk.row 3 1 (.ints .i64 l10)] })]
abbrev Zez(m g0 g1 n0 n1 n3 n6 n8 n9:Int)(l10:List Int):List AFrame×Zab:=(Zel m g0 g1 n0 n1 n3 n6 n8 n9 l10,Zc2 m g0 g1 n0 n1 n3 n6 n8 n9 l10)
def Zvq(A:Ar)(K:KT)(F:FT)(m g0 g1:Int):Prop:=bB (A.not (A.eq (Zaw m g0 g1) 0)) (F (AV.tup [AV.int .i64 0,AV.int .i64 (Zaw m g0 g1)]) (none)) (rB [A.inR .i64 (A.add (A.shl 1 m) 1),Zag (Nat.blt (A.nat (nxS m 0 1)) (A.len (List.replicate (Int.toNat (A.shl 1 m)) 100000))) true,Zag (A.le 0 (nxS m 0 1)) (Nat.blt (A.nat (nxS m 0 1)) (A.len (List.replicate (Int.toNat (A.shl 1 m)) 100000))),A.inR .i64 (A.add (A.nth [oS m g0 0 1,oS m g1 0 1] 0) (A.nth [oS m g0 0 1,oS m g1 0 1] 1)),Nat.blt 1 (A.len [oS m g0 0 1,oS m g1 0 1]),Nat.blt 0 (A.len [oS m g0 0 1,oS m g1 0 1]),Nat.beq (A.len [oS m g0 0 1,oS m g1 0 1]) 2,Nat.blt 0 (A.len [0,0]),decide (Zgb m g0 g1 0 1=true),decide (Zt5 (A.shl 1 m)=true),List.all [AV.int .i64 100000] fun x=>AV.bx x&&Nat.beq (Zam A x) 1,Zag (Zag (A.le 0 m) (Nat.blt (A.nat m) 64)) (A.inR .i64 (A.shl 1 m))] (K (Zhw (m) (g0) (g1) (A.shl 1 m) (A.add (A.shl 1 m) 1) (A.set (List.replicate (Int.toNat (A.shl 1 m)) 100000) (A.nat (nxS m 0 1)) (A.add (A.nth [oS m g0 0 1,oS m g1 0 1] 0) (A.nth [oS m g0 0 1,oS m g1 0 1] 1))) (0) (100000))))
theorem ZAv{A:Ar}{K:KT}{F:FT}{M:MT}{m g0 g1:Int} :ZaA A tab N6 32 K F M (.run 18 (.tf (.run 7 (.fn)) (.run 76 (.hd)))) (ZCo m g0 g1) []=Zvq A K F m g0 g1:=by kernel_rfl
def Ze7(A:Ar)(K:KT)(F:FT)(m g0 g1 n0 n1:Int)(l2:List Int)(n3 n4:Int):Prop:=bB (A.lt n3 n1) (K (ZgU (m) (g0) (g1) (n0) (n1) (n3) (n4) (1) (l2))) (F (AV.tup [AV.int .i64 n4,AV.int .i64 0]) (none))
theorem ZhE{A:Ar}{K:KT}{F:FT}{M:MT}{m g0 g1 n0 n1:Int}{l2:List Int}{n3 n4:Int} :ZaA A tab N6 32 K F M (.run 6 (.tf (.run 10 (.hd)) (.run 8 (.fn)))) (Zeo m g0 g1 n0 n1 l2 n3 n4) (Zc9 m g0 g1 n0 n1 l2 n3 n4)=Ze7 A K F m g0 g1 n0 n1 l2 n3 n4:=by kernel_rfl
def Ze9(A:Ar)(K:KT)(F:FT)(m g0 g1 n0 n1 n3 n5 n6:Int)(l7:List Int):Prop:=bB (A.lt n6 n0) (K (Zez (m) (g0) (g1) (n0) (n1) (n3) (n6) (n5) (0) (l7))) (rB [A.inR .i64 (A.add n3 1)] (K (Zhw (m) (g0) (g1) (n0) (n1) (l7) (A.add n3 1) (n5))))
theorem Zhx{A:Ar}{K:KT}{F:FT}{M:MT}{m g0 g1 n0 n1 n3 n5 n6:Int}{l7:List Int} :ZaA A tab N6 32 K F M (.run 8 (.tf (.run 10 (.hd)) (.run 8 (.hd)))) (Zf1 m g0 g1 n0 n1 n3 n5 n6 l7) (ZeK m g0 g1 n0 n1 n3 n5 n6 l7)=Ze9 A K F m g0 g1 n0 n1 n3 n5 n6 l7:=by kernel_rfl
def Zdo(A:Ar)(K:KT)(F:FT)(m g0 g1 n0 n1 n3 n6 n8 n9:Int)(l10:List Int):Prop:=bB (A.lt n9 2) (rB [A.inR .i64 (A.add (A.nth [oS m g0 n6 n9,oS m g1 n6 n9] 0) (A.nth [oS m g0 n6 n9,oS m g1 n6 n9] 1)),Nat.blt 1 (A.len [oS m g0 n6 n9,oS m g1 n6 n9]),Nat.blt 0 (A.len [oS m g0 n6 n9,oS m g1 n6 n9]),Nat.beq (A.len [oS m g0 n6 n9,oS m g1 n6 n9]) 2,Nat.blt 0 (A.len [0,0]),decide (Zgb m g0 g1 n6 n9=true)] (bB (A.eq (nxS m n6 n9) 0) (rB [A.inR .i64 (A.add n9 1),A.inR .i64 (A.add (A.nth l10 (A.nat n6)) (A.add (A.nth [oS m g0 n6 n9,oS m g1 n6 n9] 0) (A.nth [oS m g0 n6 n9,oS m g1 n6 n9] 1))),Zag (Nat.blt (A.nat n6) (A.len l10)) true,Zag (A.le 0 n6) (Nat.blt (A.nat n6) (A.len l10))] (K (Zez (m) (g0) (g1) (n0) (n1) (n3) (n6) (A.min n8 (A.add (A.nth l10 (A.nat n6)) (A.add (A.nth [oS m g0 n6 n9,oS m g1 n6 n9] 0) (A.nth [oS m g0 n6 n9,oS m g1 n6 n9] 1)))) (A.add n9 1) (l10)))) (rB [A.inR .i64 (A.add n9 1),Zag (Nat.blt (A.nat (nxS m n6 n9)) (A.len l10)) true,Zag (A.le 0 (nxS m n6 n9)) (Nat.blt (A.nat (nxS m n6 n9)) (A.len l10)),A.inR .i64 (A.add (A.nth l10 (A.nat n6)) (A.add (A.nth [oS m g0 n6 n9,oS m g1 n6 n9] 0) (A.nth [oS m g0 n6 n9,oS m g1 n6 n9] 1))),Zag (Nat.blt (A.nat n6) (A.len l10)) true,Zag (A.le 0 n6) (Nat.blt (A.nat n6) (A.len l10)),Zag (Nat.blt (A.nat (nxS m n6 n9)) (A.len l10)) true,Zag (A.le 0 (nxS m n6 n9)) (Nat.blt (A.nat (nxS m n6 n9)) (A.len l10))] (K (Zez (m) (g0) (g1) (n0) (n1) (n3) (n6) (n8) (A.add n9 1) (A.set l10 (A.nat (nxS m n6 n9)) (A.min (A.nth l10 (A.nat (nxS m n6 n9))) (A.add (A.nth l10 (A.nat n6)) (A.add (A.nth [oS m g0 n6 n9,oS m g1 n6 n9] 0) (A.nth [oS m g0 n6 n9,oS m g1 n6 n9] 1)))))))))) (rB [A.inR .i64 (A.add n6 1)] (K (ZgU (m) (g0) (g1) (n0) (n1) (n3) (n8) (A.add n6 1) (l10))))
theorem Zhh{A:Ar}{K:KT}{F:FT}{M:MT}{m g0 g1 n0 n1 n3 n6 n8 n9:Int}{l10:List Int} :ZaA A tab N6 32 K F M (.run 6 (.tf (.run 51 (.tf (.run 20 (.hd)) (.run 9 (.hd)))) (.run 9 (.hd)))) (Zel m g0 g1 n0 n1 n3 n6 n8 n9 l10) (Zc2 m g0 g1 n0 n1 n3 n6 n8 n9 l10)=Zdo A K F m g0 g1 n0 n1 n3 n6 n8 n9 l10:=by kernel_rfl
end Go.Proofs.Ytklbmkllepkjcaa
