/- Contracts as a list. No condition. -/
import Derived.Test.YtklbmkllepkjcaaSq
import Derived.KernelRfl
namespace Go.Proofs.Ytklbmkllepkjcaa
theorem ZqJ{m p q:Int}{so:List Int}{t:Nat}(h:t≤Zab so):(rw2 (Zab so) (gB m p q so 0 (dpP m p q so (Zab so)))).getD (t+1) []=wR (dpP m p q so (Zab so-t)):=by
 rw[ZsN _ h,gB]
 by_cases h0:0<t
 ·rw[if_pos h0]
 ·rw[if_neg h0,if_pos (by omega),show t=0 by omega];rfl
def Zoc(m p q:Int)(so:List Int)(t st:Nat)(b:Int):Prop:=(dpP m p q so (Zab so-t-1)).getD (nxS m st b).toNat 0+gnI m p q so t st b=(dpP m p q so (Zab so-t)).getD st 0
section
variable {C:Ctx}(hC:C.P=Try.prog)(m p q:Int)(so:List Int)(h:OkC m p q so)
include hC h
theorem Z1(t s st:Nat)(ht:t<Zb4 m so)(hs:s<stS m)(hst:st<stS m)(l:List Int)(b8 b9:Bool)(j j2:Nat)(b:Int)(hb:b=0∨b=1)(hne:s=st→¬Zoc m p q so t st b)(r:AV)(fr:Option Fresh)
 (hn:Ev C (Zcz m p q so (reT (Zab so)) (rw2 (Zab so) (gB m p q so 0 (dpP m p q so (Zab so)))) (ZdR m so) j t st l (stN m) b8 b9 j2 s (b+1)) (ZbV m p q so (reT (Zab so)) (rw2 (Zab so) (gB m p q so 0 (dpP m p q so (Zab so)))) (ZdR m so) j t st l (stN m) b8 b9 j2 s (b+1)) (Zav 65 r fr)):
 Ev C (Zcz m p q so (reT (Zab so)) (rw2 (Zab so) (gB m p q so 0 (dpP m p q so (Zab so)))) (ZdR m so) j t st l (stN m) b8 b9 j2 s b) (ZbV m p q so (reT (Zab so)) (rw2 (Zab so) (gB m p q so 0 (dpP m p q so (Zab so)))) (ZdR m so) j t st l (stN m) b8 b9 j2 s b) (Zav 65 r fr):=by
 obtain⟨hg,_,hl2,hl3⟩:=h.soft
 have hlen:2*Zab so≤so.length:=by unfold Zab;omega
 have hm:=(Zaz h.cv).1
 have hbb:Zb4 m so≤Zab so:=by unfold Zb4 Zab;omega
 have hT:Zab so≤303:=by unfold Zab;omega
 have e1:(reT (Zab so)).getD t 0=t+1:=ZeO (by omega)
 have e2:(reT (Zab so)).getD (t+1) 0=t+2:=ZeO (by omega)
 have e3:(rw2 (Zab so) (gB m p q so 0 (dpP m p q so (Zab so)))).getD (t+2) []=wR (dpP m p q so (Zab so-t-1)):=ZqJ (t:=t+1) (by omega)
 have e4:(rw2 (Zab so) (gB m p q so 0 (dpP m p q so (Zab so)))).getD (t+1) []=wR (dpP m p q so (Zab so-t)):=ZqJ (by omega)
 have e5:=Zpf (Zab so) (gB m p q so 0 (dpP m p q so (Zab so)))
 have e7:=Zl9 (Zab so)
 have hdl:=Ziq m p q so (Zab so-t-1)
 have hdl2:=Ziq m p q so (Zab so-t)
 obtain⟨s1,s2,s3⟩:=Zb6 h hs hb
 have k1:(2*(t:Int)).toNat=2*t:=by omega
 have k2:(2*(t:Int)+1).toNat=2*t+1:=by omega
 have hco:=ZD8 so t (Zo5 m p s b) (Zo5 m q s b)
 have hgl:=Zlo (m:=m) (p:=p) (q:=q) hg t s b
 have a1:=Zdb hg (2*t)
 have a2:=Zdb hg (2*t+1)
 have hD:=Zf1 h (n:=Zab so-t-1) (by omega) s3
 have hX:=Zf1 h (n:=Zab so-t) (by omega) hst
 have hbt:t<Zb4 m so↔¬ZdR m so≤t:=by unfold Zb4 ZdR Zam;omega
 have h108:ZzC m so=true:=decide_eq_true (by omega)
 have hb2:=hbt.1 ht
 unfold Zoc gnI at hne
 unfold gnI at hgl
 have f1:(wR (dpP m p q so (Zab so-t))).getD st 0=wN ((dpP m p q so (Zab so-t)).getD st 0):=ZkO _ (by omega)
 have f2:(wR (dpP m p q so (Zab so-t-1))).getD (nxS m s b).toNat 0=wN ((dpP m p q so (Zab so-t-1)).getD (nxS m s b).toNat 0):=ZkO _ (by omega)
 have f3:std.fadd .f32 (wN ((dpP m p q so (Zab so-t-1)).getD (nxS m s b).toNat 0)) (std.i2f .f32 (gaI so t (oS m p s b) (oS m q s b)))=some (wN ((dpP m p q so (Zab so-t-1)).getD (nxS m s b).toNat 0+gaI so t (oS m p s b) (oS m q s b))):=Zsf (by omega) (by omega)
 have f4:=Zpa (a:=(dpP m p q so (Zab so-t-1)).getD (nxS m s b).toNat 0+gaI so t (oS m p s b) (oS m q s b)) (b:=(dpP m p q so (Zab so-t)).getD st 0) (by omega) (by omega)
 have f6:=ZjA (dpP m p q so (Zab so-t))
 have f7:=ZjA (dpP m p q so (Zab so-t-1))
 have g1:t<Zab so:=by omega
 have g2:t<Zab so+1:=by omega
 have g3:(0:Int)≤(t:Int)+1:=by omega
 have g4: -9223372036854775808≤(t:Int)+1:=by omega
 have g5:(t:Int)+1≤9223372036854775807:=by omega
 have g6:∀x,asB true x=x:=fun x=>rfl
 refine tgo hC Zev Zgo ?_
 by_cases hq:s=st
 ·subst hq
  have f8:=hne rfl
  have f9:(compare ((dpP m p q so (Zab so-t-1)).getD (nxS m s b).toNat 0+gaI so t (oS m p s b) (oS m q s b)) ((dpP m p q so (Zab so-t)).getD s 0)==Ordering.eq)=false:=by
   rw[beq_eq_false_iff_ne];exact fun e=>f8 (Int.compare_eq_eq.1 e)
  rcases hb with rfl |rfl
  ·simp[-List.getD_eq_getElem?_getD,List.getD_cons_zero,List.getD_cons_succ,Zbl,e1,e2,e3,e4,e5,e7,s1,s2,s3,k1,k2,hco,hdl,hdl2,hs,h108,hb2,f1,f2,f3,f4,f6,f7,f9,g1,g2,g3,g4,g5,g6]at hn⊢
   exact⟨by omega,hn⟩
  ·simp[-List.getD_eq_getElem?_getD,List.getD_cons_zero,List.getD_cons_succ,Zbl,e1,e2,e3,e4,e5,e7,s1,s2,s3,k1,k2,hco,hdl,hdl2,hs,h108,hb2,f1,f2,f3,f4,f6,f7,f9,g1,g2,g3,g4,g5,g6]at hn⊢
   exact⟨by omega,hn⟩
 ·have hq':¬(s:Int)=st:=by omega
  rcases hb with rfl |rfl
  ·simp[-List.getD_eq_getElem?_getD,List.getD_cons_zero,List.getD_cons_succ,Zbl,e1,e2,e3,e4,e5,e7,s1,s2,s3,k1,k2,hco,hdl,hdl2,h108,hb2,f1,f2,f3,f4,f6,f7,hst,hq',g1,g2,g3,g4,g5]at hn⊢
   exact⟨by omega,hn⟩
  ·simp[-List.getD_eq_getElem?_getD,List.getD_cons_zero,List.getD_cons_succ,Zbl,e1,e2,e3,e4,e5,e7,s1,s2,s3,k1,k2,hco,hdl,hdl2,h108,hb2,f1,f2,f3,f4,f6,f7,hst,hq',g1,g2,g3,g4,g5]at hn⊢
   exact⟨by omega,hn⟩
theorem Z1e(t st:Nat)(ht:t<Zb4 m so)(hs:st<stS m)(l:List Int)(hl:l.length≤1000)(b8 b9:Bool)(j j2:Nat)(b:Int)(hb:b=0∨b=1)(he:Zoc m p q so t st b)(r:AV)(fr:Option Fresh)
 (hn:Ev C (Zcd m p q so (reT (Zab so)) (rw2 (Zab so) (gB m p q so 0 (dpP m p q so (Zab so)))) (ZdR m so) j ((t+1:Nat):Int) j2 (nxS m st b) (l++[b])) (ZbF m p q so (reT (Zab so)) (rw2 (Zab so) (gB m p q so 0 (dpP m p q so (Zab so)))) (ZdR m so) j ((t+1:Nat):Int) j2 (nxS m st b) (l++[b])) (Zav 65 r fr)):
 Ev C (Zcz m p q so (reT (Zab so)) (rw2 (Zab so) (gB m p q so 0 (dpP m p q so (Zab so)))) (ZdR m so) j t st l (stN m) b8 b9 j2 st b) (ZbV m p q so (reT (Zab so)) (rw2 (Zab so) (gB m p q so 0 (dpP m p q so (Zab so)))) (ZdR m so) j t st l (stN m) b8 b9 j2 st b) (Zav 65 r fr):=by
 obtain⟨hg,_,hl2,hl3⟩:=h.soft
 have hlen:2*Zab so≤so.length:=by unfold Zab;omega
 have hm:=(Zaz h.cv).1
 have hbb:Zb4 m so≤Zab so:=by unfold Zb4 Zab;omega
 have hT:Zab so≤303:=by unfold Zab;omega
 have e1:(reT (Zab so)).getD t 0=t+1:=ZeO (by omega)
 have e2:(reT (Zab so)).getD (t+1) 0=t+2:=ZeO (by omega)
 have e3:(rw2 (Zab so) (gB m p q so 0 (dpP m p q so (Zab so)))).getD (t+2) []=wR (dpP m p q so (Zab so-t-1)):=ZqJ (t:=t+1) (by omega)
 have e4:(rw2 (Zab so) (gB m p q so 0 (dpP m p q so (Zab so)))).getD (t+1) []=wR (dpP m p q so (Zab so-t)):=ZqJ (by omega)
 have e5:=Zpf (Zab so) (gB m p q so 0 (dpP m p q so (Zab so)))
 have e7:=Zl9 (Zab so)
 have hdl:=Ziq m p q so (Zab so-t-1)
 have hdl2:=Ziq m p q so (Zab so-t)
 obtain⟨s1,s2,s3⟩:=Zb6 h hs hb
 have k1:(2*(t:Int)).toNat=2*t:=by omega
 have k2:(2*(t:Int)+1).toNat=2*t+1:=by omega
 have hco:=ZD8 so t (Zo5 m p st b) (Zo5 m q st b)
 have hgl:=Zlo (m:=m) (p:=p) (q:=q) hg t st b
 have a1:=Zdb hg (2*t)
 have a2:=Zdb hg (2*t+1)
 have hD:=Zf1 h (n:=Zab so-t-1) (by omega) s3
 have hX:=Zf1 h (n:=Zab so-t) (by omega) hs
 have hbt:t<Zb4 m so↔¬ZdR m so≤t:=by unfold Zb4 ZdR Zam;omega
 have h108:ZzC m so=true:=decide_eq_true (by omega)
 have hb2:=hbt.1 ht
 unfold Zoc gnI at he
 unfold gnI at hgl
 have f1:(wR (dpP m p q so (Zab so-t))).getD st 0=wN ((dpP m p q so (Zab so-t)).getD st 0):=ZkO _ (by omega)
 have f2:(wR (dpP m p q so (Zab so-t-1))).getD (nxS m st b).toNat 0=wN ((dpP m p q so (Zab so-t-1)).getD (nxS m st b).toNat 0):=ZkO _ (by omega)
 have f3:std.fadd .f32 (wN ((dpP m p q so (Zab so-t-1)).getD (nxS m st b).toNat 0)) (std.i2f .f32 (gaI so t (oS m p st b) (oS m q st b)))=some (wN ((dpP m p q so (Zab so-t)).getD st 0)):=by rw[←he];exact Zsf (by omega) (by omega)
 have f4:=Zpa (a:=(dpP m p q so (Zab so-t)).getD st 0) (b:=(dpP m p q so (Zab so-t)).getD st 0) (by omega) (by omega)
 have f6:=ZjA (dpP m p q so (Zab so-t))
 have f7:=ZjA (dpP m p q so (Zab so-t-1))
 have g1:t<Zab so:=by omega
 have g2:t<Zab so+1:=by omega
 have g3:(0:Int)≤(t:Int)+1:=by omega
 have g4: -9223372036854775808≤(t:Int)+1:=by omega
 have g5:(t:Int)+1≤9223372036854775807:=by omega
 have g6:∀x,asB true x=x:=fun x=>rfl
 refine tgo hC Zev Zgo ?_
 rcases hb with rfl |rfl
 ·simp[-List.getD_eq_getElem?_getD,List.getD_cons_zero,List.getD_cons_succ,Zbl,e1,e2,e3,e4,e5,e7,s1,s2,s3,k1,k2,hco,hdl,hdl2,hs,h108,hb2,f1,f2,f3,f4,f6,f7,g1,g2,g3,g4,g5,g6,AV.bx,Zag]at hn⊢
  exact⟨by omega,by omega,hn⟩
 ·simp[-List.getD_eq_getElem?_getD,List.getD_cons_zero,List.getD_cons_succ,Zbl,e1,e2,e3,e4,e5,e7,s1,s2,s3,k1,k2,hco,hdl,hdl2,hs,h108,hb2,f1,f2,f3,f4,f6,f7,g1,g2,g3,g4,g5,g6,AV.bx,Zag]at hn⊢
  exact⟨by omega,by omega,hn⟩
theorem Z0(t st:Nat)(ht:t<Zb4 m so)(hst:st<stS m)(l:List Int)(hl:l.length≤1000)(b8 b9:Bool)(j j2:Nat)(r:AV)(fr:Option Fresh)
 (hn0:Zoc m p q so t st 0→Ev C (Zcd m p q so (reT (Zab so)) (rw2 (Zab so) (gB m p q so 0 (dpP m p q so (Zab so)))) (ZdR m so) j ((t+1:Nat):Int) j2 (nxS m st 0) (l++[0])) (ZbF m p q so (reT (Zab so)) (rw2 (Zab so) (gB m p q so 0 (dpP m p q so (Zab so)))) (ZdR m so) j ((t+1:Nat):Int) j2 (nxS m st 0) (l++[0])) (Zav 65 r fr))
 (hn1:¬Zoc m p q so t st 0→Zoc m p q so t st 1→Ev C (Zcd m p q so (reT (Zab so)) (rw2 (Zab so) (gB m p q so 0 (dpP m p q so (Zab so)))) (ZdR m so) j ((t+1:Nat):Int) j2 (nxS m st 1) (l++[1])) (ZbF m p q so (reT (Zab so)) (rw2 (Zab so) (gB m p q so 0 (dpP m p q so (Zab so)))) (ZdR m so) j ((t+1:Nat):Int) j2 (nxS m st 1) (l++[1])) (Zav 65 r fr))
 (hn2:¬Zoc m p q so t st 0→¬Zoc m p q so t st 1→Ev C (Zcd m p q so (reT (Zab so)) (rw2 (Zab so) (gB m p q so 0 (dpP m p q so (Zab so)))) (ZdR m so) j ((t+1:Nat):Int) j2 st l) (ZbF m p q so (reT (Zab so)) (rw2 (Zab so) (gB m p q so 0 (dpP m p q so (Zab so)))) (ZdR m so) j ((t+1:Nat):Int) j2 st l) (Zav 65 r fr)):
 ∀k s:Nat,s+k=stS m→(s≤st∨¬Zoc m p q so t st 0∧¬Zoc m p q so t st 1)→
 Ev C (Zi8 m p q so (reT (Zab so)) (rw2 (Zab so) (gB m p q so 0 (dpP m p q so (Zab so)))) (ZdR m so) j t st l (stN m) b8 b9 j2 s) (Zga m p q so (reT (Zab so)) (rw2 (Zab so) (gB m p q so 0 (dpP m p q so (Zab so)))) (ZdR m so) j t st l (stN m) b8 b9 j2 s) (Zav 65 r fr):=by
 have hm:=(Zaz h.cv).1
 have h2:=Zcp hm
 obtain⟨hg,_,hl2,hl3⟩:=h.soft
 have hT:Zb4 m so≤303:=by unfold Zb4;omega
 intro k
 induction k with
 |zero=>
  intro s hs hq
  have e9:(s:Int)=stN m:=by omega
  obtain⟨q1,q2⟩:¬Zoc m p q so t st 0∧¬Zoc m p q so t st 1:=by
   rcases hq with hq |hq
   ·omega
   ·exact hq
  have i:=hn2 q1 q2
  refine tgo hC Zev ZlO ?_
  simp[Zgu,e9]at i⊢
  exact⟨by omega,i⟩
 |succ k ih=>
  intro s hs hq
  have e9:(s:Int)<stN m:=by omega
  have hx:∀i:s+1≤st∨¬Zoc m p q so t st 0∧¬Zoc m p q so t st 1,Ev C (Zcz m p q so (reT (Zab so)) (rw2 (Zab so) (gB m p q so 0 (dpP m p q so (Zab so)))) (ZdR m so) j t st l (stN m) b8 b9 j2 s 2) (ZbV m p q so (reT (Zab so)) (rw2 (Zab so) (gB m p q so 0 (dpP m p q so (Zab so)))) (ZdR m so) j t st l (stN m) b8 b9 j2 s 2) (Zav 65 r fr):=fun i=>by
   have ih':=ih (s+1) (by omega) i
   refine tgo hC Zev Zgo ?_
   simp[Zbl]at ih'⊢
   exact⟨by omega,ih'⟩
  refine tgo hC Zev ZlO ?_
  simp only[Zgu,Zu0,ZBs,e9,decide_true,if_true]
  show Ev C _ _ _
  by_cases hs2:s=st
  ·subst hs2
   by_cases q0:Zoc m p q so t s 0
   ·exact Z1e hC m p q so h t s ht hst l hl _ _ _ _ 0 (Or.inl rfl) q0 _ _ (hn0 q0)
   ·refine Z1 hC m p q so h t s s ht hst hst l _ _ _ _ 0 (Or.inl rfl) (fun _=>q0) _ _ ?_
    by_cases q1:Zoc m p q so t s 1
    ·exact Z1e hC m p q so h t s ht hst l hl _ _ _ _ 1 (Or.inr rfl) q1 _ _ (hn1 q0 q1)
    ·exact Z1 hC m p q so h t s s ht hst hst l _ _ _ _ 1 (Or.inr rfl) (fun _=>q1) _ _ (hx (Or.inr ⟨q0,q1⟩))
  ·refine Z1 hC m p q so h t s st ht (by omega) hst l _ _ _ _ 0 (Or.inl rfl) (fun e=>absurd e hs2) _ _ ?_
   refine Z1 hC m p q so h t s st ht (by omega) hst l _ _ _ _ 1 (Or.inr rfl) (fun e=>absurd e hs2) _ _ (hx ?_)
   rcases hq with hq |hq
   ·exact Or.inl (by omega)
   ·exact Or.inr hq
theorem Z65:∀k t:Nat,t+k=Zb4 m so→∀(st:Nat) (l:List Int) (j j2:Nat),st<stS m→l.length+k≤1000→
 Ev C (Zcd m p q so (reT (Zab so)) (rw2 (Zab so) (gB m p q so 0 (dpP m p q so (Zab so)))) (ZdR m so) j t j2 st l) (ZbF m p q so (reT (Zab so)) (rw2 (Zab so) (gB m p q so 0 (dpP m p q so (Zab so)))) (ZdR m so) j t j2 st l) (Zav 65 (.tup [.row 0 0, .int .i64 ((dpP m p q so (Zab so)).getD 0 0)]) (some ⟨3,1, .ints .i64 (l++tbP m p q so k t st)⟩)):=by
 have hm:=(Zaz h.cv).1
 have h2:=Zcp hm
 have hmm:Zes m=true:=decide_eq_true (by omega)
 obtain⟨hg,_,hl2,hl3⟩:=h.soft
 have hT:Zb4 m so≤Zab so∧Zab so≤303:=by unfold Zb4 Zab;omega
 intro k
 induction k with
 |zero=>
  intro t ht st l j j2 hst hl
  have hbt:¬(t:Int)<ZdR m so:=by unfold Zb4 at ht;unfold ZdR Zam;omega
  have e1:(reT (Zab so)).getD 0 0=1:=by rw[ZeO (by omega)]
  have e3:(rw2 (Zab so) (gB m p q so 0 (dpP m p q so (Zab so)))).getD 1 []=wR (dpP m p q so (Zab so)):=ZqJ (t:=0) (by omega)
  have e5:=Zpf (Zab so) (gB m p q so 0 (dpP m p q so (Zab so)))
  have e7:=Zl9 (Zab so)
  have hdl:=Ziq m p q so (Zab so)
  have hX:=Zf1 h (n:=Zab so) (by omega) (show 0<stS m by omega)
  have f1:(wR (dpP m p q so (Zab so))).getD 0 0=wN ((dpP m p q so (Zab so)).getD 0 0):=ZkO _ (by omega)
  have f2:=ZMd (n:=(dpP m p q so (Zab so)).getD 0 0) (by omega)
  have f6:=ZjA (dpP m p q so (Zab so))
  refine tgo hC Zev ZmS ?_
  simp[-List.getD_eq_getElem?_getD,Ziy,hbt,e1,e3,e5,e7,hdl,f1,f2,f6,tbP]
  omega
 |succ k ih=>
  intro t ht st l j j2 hst hl
  have hbt:(t:Int)<ZdR m so:=by unfold Zb4 at ht;unfold ZdR Zam;omega
  refine tgo hC Zev ZmS ?_
  have i:=Z0 hC m p q so h t st (by omega) hst l (by omega) true true j (j2+1) (.tup [.row 0 0, .int .i64 ((dpP m p q so (Zab so)).getD 0 0)]) (some ⟨3,1, .ints .i64 (l++tbP m p q so (k+1) t st)⟩) (fun q0=>by
   obtain⟨s1,s2,s3⟩:=Zb6 h hst (b:=0) (Or.inl rfl)
   have:=ih (t+1) (by omega) (nxS m st 0).toNat (l++[0]) j (j2+1) s3 (by simp;omega)
   rw[Int.toNat_of_nonneg s2,List.append_assoc]at this
   unfold Zoc at q0
   rw[tbP,if_pos q0]
   exact this) (fun q0 q1=>by
   obtain⟨s1,s2,s3⟩:=Zb6 h hst (b:=1) (Or.inr rfl)
   have:=ih (t+1) (by omega) (nxS m st 1).toNat (l++[1]) j (j2+1) s3 (by simp;omega)
   rw[Int.toNat_of_nonneg s2,List.append_assoc]at this
   unfold Zoc at q0 q1
   rw[tbP,if_neg q0,if_pos q1]
   exact this) (fun q0 q1=>by
   have:=ih (t+1) (by omega) st l j (j2+1) hst (by omega)
   unfold Zoc at q0 q1
   rw[tbP,if_neg q0,if_neg q1]
   exact this) (stS m) 0 (by omega) (Or.inl (Nat.zero_le _))
  simp[Ziy,hbt,hmm]at i⊢
  exact i
end
theorem ZMG{m:Int} :wR (Zrq m)=List.replicate (stN m).toNat 3351465984:=by
 unfold wR Zrq
 rw[List.map_replicate,←ZIh];rfl
section
variable {C:Ctx}(hC:C.P=Try.prog)(m p q:Int)(so:List Int)(h:OkC m p q so)
include hC h
theorem ZUW:∀k t:Nat,t+k=Zab so+1→
 Ev C (Zjk m p q so ((Zab so+1:Nat):Int) (fT (Zab so) t) t ([]::List.replicate t (wR (Zrq m)))) (Zgn m p q so ((Zab so+1:Nat):Int) (fT (Zab so) t) t ([]::List.replicate t (wR (Zrq m)))) (Zav 65 (.tup [.row 0 0, .int .i64 ((dpP m p q so (Zab so)).getD 0 0)]) (some ⟨3,1, .ints .i64 (tbP m p q so (Zb4 m so) 0 0)⟩)):=by
 have hm:=(Zaz h.cv).1
 have h2:=Zcp hm
 have hmm:Zes m=true:=decide_eq_true (by omega)
 have hst:ZPM (stN m)=true:=decide_eq_true (by unfold stN at h2 ⊢;omega)
 obtain⟨hg,_,hl2,hl3⟩:=h.soft
 have hT:Zab so≤303:=by unfold Zab;omega
 have hbT:Zb4 m so≤303:=by unfold Zb4;omega
 have hTT:Zam so=(Zab so:Int):=rfl
 intro k
 induction k with
 |zero=>
  intro t ht
  refine tgo hC Zev Zla ?_
  have i:=ZVv hC m p q so h _ _ (fun j=>Z65 hC m p q so h (Zb4 m so) 0 (by omega) 0 [] j 0 (by omega) (by simp;omega)) (Zab so) 0 (Nat.le_refl _)
  have e9:t=Zab so+1:=by omega
  subst e9
  have e1:(reT (Zab so)).getD (Zab so) 0=Zab so+1:=ZeO (by omega)
  have e2:(([]:List Nat)::List.replicate (Zab so+1) (wR (Zrq m))).getD (Zab so+1) []=wR (Zrq m):=by rw[List.getD_cons_succ,List.getD_eq_getElem?_getD,List.getElem?_replicate,if_pos (by omega)];rfl
  have e0:dpP m p q so 0=(Zrq m).set 0 0:=by
   apply List.ext_getElem?
   intro i
   unfold dpP Zrq
   rw[List.getElem?_set,List.getElem?_map,List.getElem?_replicate,List.length_replicate]
   by_cases hi:i<stS m
   ·rw[List.getElem?_range hi]
    by_cases h0:0=i
    ·subst h0;simp[hi]
    ·simp[hi,h0,show ¬i=0 by omega]
   ·rw[List.getElem?_eq_none (by simp;omega)];simp[hi,show ¬0=i by omega]
  have e3:(([]:List Nat)::List.replicate (Zab so+1) (wR (Zrq m))).set (Zab so+1) ((wR (Zrq m)).set 0 0)=rw2 (Zab so) (gB m p q so (Zab so) (dpP m p q so (Zab so-Zab so))):=by
   rw[Nat.sub_self,e0]
   unfold rw2
   rw[List.set_cons_succ]
   congr 1
   apply List.ext_getElem?
   intro i
   rw[List.getElem?_set,List.getElem?_map,List.getElem?_replicate,List.length_replicate]
   by_cases hi:i<Zab so+1
   ·rw[List.getElem?_range hi]
    by_cases h0:Zab so=i
    ·subst h0;simp[gB];rw[←Zwv,←ZHV]
    ·simp[h0,hi,gB,show ¬i=Zab so from fun e=>h0 e.symm,show ¬Zab so<i by omega]
   ·rw[List.getElem?_eq_none (by simp;omega)]
    simp[hi,show ¬Zab so=i by omega]
  have e4:(Zrq m).length=stS m:=by simp[Zrq]
  have e4w:=ZjA (Zrq m)
  have e5:=Zl9 (Zab so)
  have e6:=ZIl (Zab so)
  rw[←e3]at i
  simp[-List.getD_eq_getElem?_getD, -List.set_cons_succ,Zgv,e1,e2,e4,e4w,e5,e6,hTT]at i⊢
  refine⟨by omega,?_⟩
  exact i
 |succ k ih=>
  intro t ht
  refine tgo hC Zev Zla ?_
  have i:=ih (t+1) (by omega)
  rw[←ZMV (by omega),List.replicate_succ',←List.cons_append]at i
  have e9:(t:Int)<(Zab so:Int)+1:=by omega
  have e9n:t<Zab so+1:=by omega
  have e5:=ZIn (Zab so) t
  have e6:=ZMG (m:=m)
  simp[Zgv,hmm,hst,e5,e9,e9n,AV.bx,Zag]at i⊢
  rw[←e6]
  exact⟨by omega,i⟩
end
theorem ZF7{m p q:Int}{so:List Int}(h:OkC m p q so):Zab so≤303∧so.length≤1000000:=by
 have hm:=(Zaz h.cv).1
 obtain⟨hg,_,hl2,hl3⟩:=h.soft
 unfold Zab;omega
theorem ZxZ(m p q:Int)(so:List Int)(h:OkC m p q so):Zaj Try.prog 65 [.agg (.gen [.int .i64 m, .int .i64 p, .int .i64 q, .list (.ints .i64 so)])] (.tup [.row 0 0, .int .i64 (bvI m p q so)]) (some ⟨3,1, .ints .i64 (blI m p q so)⟩):=by
 have hT:=ZF7 h
 have hTT:Zam so=(Zab so:Int):=rfl
 obtain⟨w1,w2⟩:=ZAP h
 have e2:((Zab so:Int)+1).toNat=Zab so+1:=by omega
 refine start (ZGD m p q so) fun C hC=>tgo hC Zev ZQR ?_
 have i:=ZUW hC m p q so h (Zab so+1) 0 (by omega)
 rw[w1,w2,ZEu]at i
 simp[ZId,hTT,e2]at i⊢
 exact⟨by omega,i⟩
def k65:Ctr:=⟨65,0,fun _ a=>match a with |[.agg (.gen [.int .i64 m, .int .i64 p, .int .i64 q, .list (.ints .i64 so)])]=>some (decide (okI m p q so=true), .tup [.row 0 0, .int .i64 (bvI m p q so)],some ⟨3,1, .ints .i64 (blI m p q so)⟩) |_=>none⟩
theorem ZOB:k65.OK Try.prog:=fun pa args r fr h=>by
 simp only[k65]at h
 split at h
 ·simp only[Option.some.injEq,Prod.mk.injEq,decide_eq_true_eq]at h
  obtain⟨h0,rfl,rfl⟩:=h
  exact ZxZ _ _ _ _ (okI_iff.1 h0)
 ·cases h
def J7:List Ctr:=[k65]++N6
theorem ZQD:Zay Try.prog J7:=⟨ZOB,ZSs⟩
end Go.Proofs.Ytklbmkllepkjcaa
/- Calls at given values. Printed by facts.py. -/
namespace Go.Proofs.Ytklbmkllepkjcaa
set_option maxRecDepth 1000000
def aw0:Fact:=⟨58,[],(.agg (.gen [(.int .i64 2),(.int .i64 7),(.int .i64 5)])),none⟩
theorem ZOy:Zaj Try.prog aw0.f aw0.args aw0.r aw0.fr:=Zac (n:=100000) (l:=[]) follows Zae trivial (by kernel_rfl)
def aw1:Fact:=⟨59,[],(.row 0 0),(some ⟨3,1,(.ints .i64 [(-1),(-1),1,1,(-1),(-1),1,1])⟩)⟩
theorem ZOn:Zaj Try.prog aw1.f aw1.args aw1.r aw1.fr:=Zac (n:=100000) (l:=[]) follows Zae trivial (by kernel_rfl)
def aw2:Fact:=⟨91,[(.int .i64 2),(.int .i64 1),(.int .i64 3)],(.bool true),none⟩
theorem ZIu:Zaj Try.prog aw2.f aw2.args aw2.r aw2.fr:=Zac (n:=100000) (l:=[]) follows Zae trivial (by kernel_rfl)
def aw3:Fact:=⟨91,[(.int .i64 7),(.int .i64 1),(.int .i64 7)],(.bool true),none⟩
theorem ZJe:Zaj Try.prog aw3.f aw3.args aw3.r aw3.fr:=Zac (n:=100000) (l:=[]) follows Zae trivial (by kernel_rfl)
def aw4:Fact:=⟨111,[(.int .i64 7),(.eptr (.int .i64 1) 0),(.eptr (.int .i64 7) 0)],(.bool false),none⟩
theorem ZL4:Zaj Try.prog aw4.f aw4.args aw4.r aw4.fr:=Zac (n:=100000) (l:=[aw3]) follows Zae ⟨ZJe,trivial⟩ (by kernel_rfl)
def aw5:Fact:=⟨91,[(.int .i64 5),(.int .i64 1),(.int .i64 7)],(.bool true),none⟩
theorem ZKo:Zaj Try.prog aw5.f aw5.args aw5.r aw5.fr:=Zac (n:=100000) (l:=[]) follows Zae trivial (by kernel_rfl)
def aw6:Fact:=⟨111,[(.int .i64 5),(.eptr (.int .i64 1) 0),(.eptr (.int .i64 7) 0)],(.bool false),none⟩
theorem ZOK:Zaj Try.prog aw6.f aw6.args aw6.r aw6.fr:=Zac (n:=100000) (l:=[aw5]) follows Zae ⟨ZKo,trivial⟩ (by kernel_rfl)
def aw7:Fact:=⟨123,[(.list (.ints .i64 [7,5])),(.fn 111 [(.eptr (.int .i64 1) 0),(.eptr (.int .i64 7) 0)])],(.int .i64 (-1)),none⟩
theorem ZJ2:Zaj Try.prog aw7.f aw7.args aw7.r aw7.fr:=Zac (n:=100000) (l:=[aw4,aw6]) follows Zae ⟨ZL4,⟨ZOK,trivial⟩⟩ (by kernel_rfl)
def aw8:Fact:=⟨110,[(.list (.ints .i64 [7,5])),(.fn 111 [(.eptr (.int .i64 1) 0),(.eptr (.int .i64 7) 0)])],(.bool false),none⟩
theorem ZNL:Zaj Try.prog aw8.f aw8.args aw8.r aw8.fr:=Zac (n:=100000) (l:=[aw7]) follows Zae ⟨ZJ2,trivial⟩ (by kernel_rfl)
def aw9:Fact:=⟨85,[(.bool true),(.int .i64 2)],(.int .i64 0),none⟩
theorem Zmf:Zaj Try.prog aw9.f aw9.args aw9.r aw9.fr:=Zac (n:=100000) (l:=[]) follows Zae trivial (by kernel_rfl)
def aw10:Fact:=⟨70,[(.list (.ints .i64 [7,5])),(.int .i64 1),(.int .i64 7)],(.int .i64 0),none⟩
theorem ZFk:Zaj Try.prog aw10.f aw10.args aw10.r aw10.fr:=Zac (n:=100000) (l:=[aw8,aw9]) follows Zae ⟨ZNL,⟨Zmf,trivial⟩⟩ (by kernel_rfl)
def aw11:Fact:=⟨63,[(.agg (.gen [(.int .i64 2),(.int .i64 7),(.int .i64 5)]))],(.int .i64 0),none⟩
theorem ZxK:Zaj Try.prog aw11.f aw11.args aw11.r aw11.fr:=Zac (n:=100000) (l:=[aw2,aw10]) follows Zae ⟨ZIu,⟨ZFk,trivial⟩⟩ (by kernel_rfl)
def aw12:Fact:=⟨85,[(.bool true),(.int .i64 10)],(.int .i64 0),none⟩
theorem ZrY:Zaj Try.prog aw12.f aw12.args aw12.r aw12.fr:=Zac (n:=100000) (l:=[]) follows Zae trivial (by kernel_rfl)
def aw13:Fact:=⟨85,[(.bool true),(.int .i64 8)],(.int .i64 0),none⟩
theorem ZwT:Zaj Try.prog aw13.f aw13.args aw13.r aw13.fr:=Zac (n:=100000) (l:=[]) follows Zae trivial (by kernel_rfl)
def aw14:Fact:=⟨91,[(.int .i64 (-1)),(.int .i64 (-7)),(.int .i64 7)],(.bool true),none⟩
theorem ZFu:Zaj Try.prog aw14.f aw14.args aw14.r aw14.fr:=Zac (n:=100000) (l:=[]) follows Zae trivial (by kernel_rfl)
def aw15:Fact:=⟨111,[(.int .i64 (-1)),(.eptr (.int .i64 (-7)) 0),(.eptr (.int .i64 7) 0)],(.bool false),none⟩
theorem ZFd:Zaj Try.prog aw15.f aw15.args aw15.r aw15.fr:=Zac (n:=100000) (l:=[aw14]) follows Zae ⟨ZFu,trivial⟩ (by kernel_rfl)
def aw16:Fact:=⟨91,[(.int .i64 1),(.int .i64 (-7)),(.int .i64 7)],(.bool true),none⟩
theorem ZGp:Zaj Try.prog aw16.f aw16.args aw16.r aw16.fr:=Zac (n:=100000) (l:=[]) follows Zae trivial (by kernel_rfl)
def aw17:Fact:=⟨111,[(.int .i64 1),(.eptr (.int .i64 (-7)) 0),(.eptr (.int .i64 7) 0)],(.bool false),none⟩
theorem ZGn:Zaj Try.prog aw17.f aw17.args aw17.r aw17.fr:=Zac (n:=100000) (l:=[aw16]) follows Zae ⟨ZGp,trivial⟩ (by kernel_rfl)
def aw18:Fact:=⟨123,[(.list (.ints .i64 [(-1),(-1),1,1,(-1),(-1),1,1])),(.fn 111 [(.eptr (.int .i64 (-7)) 0),(.eptr (.int .i64 7) 0)])],(.int .i64 (-1)),none⟩
theorem ZHY:Zaj Try.prog aw18.f aw18.args aw18.r aw18.fr:=Zac (n:=100000) (l:=[aw15,aw17]) follows Zae ⟨ZFd,⟨ZGn,trivial⟩⟩ (by kernel_rfl)
def aw19:Fact:=⟨110,[(.list (.ints .i64 [(-1),(-1),1,1,(-1),(-1),1,1])),(.fn 111 [(.eptr (.int .i64 (-7)) 0),(.eptr (.int .i64 7) 0)])],(.bool false),none⟩
theorem ZGa:Zaj Try.prog aw19.f aw19.args aw19.r aw19.fr:=Zac (n:=100000) (l:=[aw18]) follows Zae ⟨ZHY,trivial⟩ (by kernel_rfl)
def aw20:Fact:=⟨70,[(.list (.ints .i64 [(-1),(-1),1,1,(-1),(-1),1,1])),(.int .i64 (-7)),(.int .i64 7)],(.int .i64 0),none⟩
theorem ZHd:Zaj Try.prog aw20.f aw20.args aw20.r aw20.fr:=Zac (n:=100000) (l:=[aw19,aw9]) follows Zae ⟨ZGa,⟨Zmf,trivial⟩⟩ (by kernel_rfl)
def aw21:Fact:=⟨72,[(.list (.ints .i64 [0,0,0]))],(.int .i64 0),none⟩
theorem ZvY:Zaj Try.prog aw21.f aw21.args aw21.r aw21.fr:=Zac (n:=100000) (l:=[]) follows Zae trivial (by kernel_rfl)
def aw22:Fact:=⟨64,[(.agg (.gen [(.int .i64 2),(.int .i64 7),(.int .i64 5)])),(.list (.ints .i64 [(-1),(-1),1,1,(-1),(-1),1,1]))],(.int .i64 0),none⟩
theorem ZHn:Zaj Try.prog aw22.f aw22.args aw22.r aw22.fr:=Zac (n:=100000) (l:=[aw12,aw13,aw20,aw21]) follows Zae ⟨ZrY,⟨ZwT,⟨ZHd,⟨ZvY,trivial⟩⟩⟩⟩ (by kernel_rfl)
def aw23:Fact:=⟨84,[(.agg (.gen [(.int .i64 2),(.int .i64 7),(.int .i64 5),(.list (.ints .i64 [(-1),(-1),1,1,(-1),(-1),1,1]))]))],(.int .i64 4),none⟩
theorem Zyw:Zaj Try.prog aw23.f aw23.args aw23.r aw23.fr:=Zac (n:=100000) (l:=[]) follows Zae trivial (by kernel_rfl)
def aw24:Fact:=⟨86,[(.agg (.gen [(.int .i64 2),(.int .i64 7),(.int .i64 5),(.list (.ints .i64 [(-1),(-1),1,1,(-1),(-1),1,1]))]))],(.int .i64 4),none⟩
theorem ZEL:Zaj Try.prog aw24.f aw24.args aw24.r aw24.fr:=Zac (n:=100000) (l:=[]) follows Zae trivial (by kernel_rfl)
def aw25:Fact:=⟨127,[(.int .u64 1),(.int .u64 4)],(.tup [(.int .u64 0),(.int .u64 4)]),none⟩
theorem ZHS:Zaj Try.prog aw25.f aw25.args aw25.r aw25.fr:=Zac (n:=100000) (l:=[]) follows Zae trivial (by kernel_rfl)
def aw26:Fact:=⟨114,[(.int .u64 1),(.int .u64 4)],(.tup [(.int .u64 0),(.int .u64 4)]),none⟩
theorem Zxd:Zaj Try.prog aw26.f aw26.args aw26.r aw26.fr:=Zac (n:=100000) (l:=[aw25]) follows Zae ⟨ZHS,trivial⟩ (by kernel_rfl)
def aw27:Fact:=⟨122,[(.list (.flts .f32 [3351465984])),(.int .i64 4)],(.row 0 0),(some ⟨118,1,(.flts .f32 [3351465984,3351465984,3351465984,3351465984])⟩)⟩
theorem ZE0:Zaj Try.prog aw27.f aw27.args aw27.r aw27.fr:=Zac (n:=100000) (l:=[aw26]) follows Zae ⟨Zxd,trivial⟩ (by kernel_rfl)
def aw28:Fact:=⟨125,[(.int .u64 0)],(.int .i64 0),none⟩
theorem ZFL:Zaj Try.prog aw28.f aw28.args aw28.r aw28.fr:=Zac (n:=100000) (l:=[]) follows Zae trivial (by kernel_rfl)
def aw29:Fact:=⟨113,[(.int .u64 0)],(.int .i64 0),none⟩
theorem ZvH:Zaj Try.prog aw29.f aw29.args aw29.r aw29.fr:=Zac (n:=100000) (l:=[aw28]) follows Zae ⟨ZFL,trivial⟩ (by kernel_rfl)
def aw30:Fact:=⟨82,[(.agg (.gen [(.int .i64 2),(.int .i64 7),(.int .i64 5)])),(.int .i64 0),(.int .i64 0)],(.tup [(.int .i64 0),(.agg (.ints .i64 [0,0]))]),none⟩
theorem ZGo:Zaj Try.prog aw30.f aw30.args aw30.r aw30.fr:=Zac (n:=100000) (l:=[aw29]) follows Zae ⟨ZvH,trivial⟩ (by kernel_rfl)
def aw31:Fact:=⟨89,[(.int .i64 0),(.int .i64 1)],(.int .i64 1),none⟩
theorem ZHf:Zaj Try.prog aw31.f aw31.args aw31.r aw31.fr:=Zac (n:=100000) (l:=[]) follows Zae trivial (by kernel_rfl)
def aw32:Fact:=⟨108,[(.agg (.gen [(.int .i64 2),(.int .i64 7),(.int .i64 5),(.list (.ints .i64 [(-1),(-1),1,1,(-1),(-1),1,1]))]))],(.int .i64 2),none⟩
theorem ZEa:Zaj Try.prog aw32.f aw32.args aw32.r aw32.fr:=Zac (n:=100000) (l:=[aw23]) follows Zae ⟨Zyw,trivial⟩ (by kernel_rfl)
def aw33:Fact:=⟨125,[(.int .u64 1)],(.int .i64 1),none⟩
theorem ZGv:Zaj Try.prog aw33.f aw33.args aw33.r aw33.fr:=Zac (n:=100000) (l:=[]) follows Zae trivial (by kernel_rfl)
def aw34:Fact:=⟨113,[(.int .u64 1)],(.int .i64 1),none⟩
theorem ZwI:Zaj Try.prog aw34.f aw34.args aw34.r aw34.fr:=Zac (n:=100000) (l:=[aw33]) follows Zae ⟨ZGv,trivial⟩ (by kernel_rfl)
def aw35:Fact:=⟨82,[(.agg (.gen [(.int .i64 2),(.int .i64 7),(.int .i64 5)])),(.int .i64 1),(.int .i64 0)],(.tup [(.int .i64 0),(.agg (.ints .i64 [1,1]))]),none⟩
theorem Zyg:Zaj Try.prog aw35.f aw35.args aw35.r aw35.fr:=Zac (n:=100000) (l:=[aw34]) follows Zae ⟨ZwI,trivial⟩ (by kernel_rfl)
def aw36:Fact:=⟨89,[(.int .i64 1),(.int .i64 1)],(.int .i64 (-1)),none⟩
theorem ZHx:Zaj Try.prog aw36.f aw36.args aw36.r aw36.fr:=Zac (n:=100000) (l:=[]) follows Zae trivial (by kernel_rfl)
def aw37:Fact:=⟨125,[(.int .u64 2)],(.int .i64 1),none⟩
theorem ZHE:Zaj Try.prog aw37.f aw37.args aw37.r aw37.fr:=Zac (n:=100000) (l:=[]) follows Zae trivial (by kernel_rfl)
def aw38:Fact:=⟨113,[(.int .u64 2)],(.int .i64 1),none⟩
theorem ZEk:Zaj Try.prog aw38.f aw38.args aw38.r aw38.fr:=Zac (n:=100000) (l:=[aw37]) follows Zae ⟨ZHE,trivial⟩ (by kernel_rfl)
def aw39:Fact:=⟨82,[(.agg (.gen [(.int .i64 2),(.int .i64 7),(.int .i64 5)])),(.int .i64 2),(.int .i64 0)],(.tup [(.int .i64 1),(.agg (.ints .i64 [1,0]))]),none⟩
theorem Zx3:Zaj Try.prog aw39.f aw39.args aw39.r aw39.fr:=Zac (n:=100000) (l:=[aw38,aw29]) follows Zae ⟨ZEk,⟨ZvH,trivial⟩⟩ (by kernel_rfl)
def aw40:Fact:=⟨125,[(.int .u64 3)],(.int .i64 2),none⟩
theorem ZHs:Zaj Try.prog aw40.f aw40.args aw40.r aw40.fr:=Zac (n:=100000) (l:=[]) follows Zae trivial (by kernel_rfl)
def aw41:Fact:=⟨113,[(.int .u64 3)],(.int .i64 2),none⟩
theorem ZFx:Zaj Try.prog aw41.f aw41.args aw41.r aw41.fr:=Zac (n:=100000) (l:=[aw40]) follows Zae ⟨ZHs,trivial⟩ (by kernel_rfl)
def aw42:Fact:=⟨82,[(.agg (.gen [(.int .i64 2),(.int .i64 7),(.int .i64 5)])),(.int .i64 3),(.int .i64 0)],(.tup [(.int .i64 1),(.agg (.ints .i64 [0,1]))]),none⟩
theorem Zxu:Zaj Try.prog aw42.f aw42.args aw42.r aw42.fr:=Zac (n:=100000) (l:=[aw41,aw34]) follows Zae ⟨ZFx,⟨ZwI,trivial⟩⟩ (by kernel_rfl)
def aw43:Fact:=⟨89,[(.int .i64 0),(.int .i64 (-1))],(.int .i64 (-1)),none⟩
theorem ZEZ:Zaj Try.prog aw43.f aw43.args aw43.r aw43.fr:=Zac (n:=100000) (l:=[]) follows Zae trivial (by kernel_rfl)
def aw44:Fact:=⟨89,[(.int .i64 1),(.int .i64 (-1))],(.int .i64 1),none⟩
theorem ZEc:Zaj Try.prog aw44.f aw44.args aw44.r aw44.fr:=Zac (n:=100000) (l:=[]) follows Zae trivial (by kernel_rfl)
def aw45:Fact:=⟨125,[(.int .u64 4)],(.int .i64 1),none⟩
theorem ZG2:Zaj Try.prog aw45.f aw45.args aw45.r aw45.fr:=Zac (n:=100000) (l:=[]) follows Zae trivial (by kernel_rfl)
def aw46:Fact:=⟨113,[(.int .u64 4)],(.int .i64 1),none⟩
theorem ZxP:Zaj Try.prog aw46.f aw46.args aw46.r aw46.fr:=Zac (n:=100000) (l:=[aw45]) follows Zae ⟨ZG2,trivial⟩ (by kernel_rfl)
def aw47:Fact:=⟨82,[(.agg (.gen [(.int .i64 2),(.int .i64 7),(.int .i64 5)])),(.int .i64 0),(.int .i64 1)],(.tup [(.int .i64 2),(.agg (.ints .i64 [1,1]))]),none⟩
theorem ZwN:Zaj Try.prog aw47.f aw47.args aw47.r aw47.fr:=Zac (n:=100000) (l:=[aw46]) follows Zae ⟨ZxP,trivial⟩ (by kernel_rfl)
def aw48:Fact:=⟨125,[(.int .u64 5)],(.int .i64 2),none⟩
theorem ZFy:Zaj Try.prog aw48.f aw48.args aw48.r aw48.fr:=Zac (n:=100000) (l:=[]) follows Zae trivial (by kernel_rfl)
def aw49:Fact:=⟨113,[(.int .u64 5)],(.int .i64 2),none⟩
theorem Zyp:Zaj Try.prog aw49.f aw49.args aw49.r aw49.fr:=Zac (n:=100000) (l:=[aw48]) follows Zae ⟨ZFy,trivial⟩ (by kernel_rfl)
def aw50:Fact:=⟨82,[(.agg (.gen [(.int .i64 2),(.int .i64 7),(.int .i64 5)])),(.int .i64 1),(.int .i64 1)],(.tup [(.int .i64 2),(.agg (.ints .i64 [0,0]))]),none⟩
theorem ZyC:Zaj Try.prog aw50.f aw50.args aw50.r aw50.fr:=Zac (n:=100000) (l:=[aw49]) follows Zae ⟨Zyp,trivial⟩ (by kernel_rfl)
def aw51:Fact:=⟨125,[(.int .u64 6)],(.int .i64 2),none⟩
theorem ZHi:Zaj Try.prog aw51.f aw51.args aw51.r aw51.fr:=Zac (n:=100000) (l:=[]) follows Zae trivial (by kernel_rfl)
def aw52:Fact:=⟨113,[(.int .u64 6)],(.int .i64 2),none⟩
theorem ZEi:Zaj Try.prog aw52.f aw52.args aw52.r aw52.fr:=Zac (n:=100000) (l:=[aw51]) follows Zae ⟨ZHi,trivial⟩ (by kernel_rfl)
def aw53:Fact:=⟨82,[(.agg (.gen [(.int .i64 2),(.int .i64 7),(.int .i64 5)])),(.int .i64 2),(.int .i64 1)],(.tup [(.int .i64 3),(.agg (.ints .i64 [0,1]))]),none⟩
theorem Zxz:Zaj Try.prog aw53.f aw53.args aw53.r aw53.fr:=Zac (n:=100000) (l:=[aw52,aw46]) follows Zae ⟨ZEi,⟨ZxP,trivial⟩⟩ (by kernel_rfl)
def aw54:Fact:=⟨125,[(.int .u64 7)],(.int .i64 3),none⟩
theorem ZEm:Zaj Try.prog aw54.f aw54.args aw54.r aw54.fr:=Zac (n:=100000) (l:=[]) follows Zae trivial (by kernel_rfl)
def aw55:Fact:=⟨113,[(.int .u64 7)],(.int .i64 3),none⟩
theorem ZG4:Zaj Try.prog aw55.f aw55.args aw55.r aw55.fr:=Zac (n:=100000) (l:=[aw54]) follows Zae ⟨ZEm,trivial⟩ (by kernel_rfl)
def aw56:Fact:=⟨82,[(.agg (.gen [(.int .i64 2),(.int .i64 7),(.int .i64 5)])),(.int .i64 3),(.int .i64 1)],(.tup [(.int .i64 3),(.agg (.ints .i64 [1,0]))]),none⟩
theorem ZwY:Zaj Try.prog aw56.f aw56.args aw56.r aw56.fr:=Zac (n:=100000) (l:=[aw55,aw49]) follows Zae ⟨ZG4,⟨Zyp,trivial⟩⟩ (by kernel_rfl)
def aw57:Fact:=⟨65,[(.agg (.gen [(.int .i64 2),(.int .i64 7),(.int .i64 5),(.list (.ints .i64 [(-1),(-1),1,1,(-1),(-1),1,1]))]))],(.tup [(.row 0 0),(.int .i64 6)]),(some ⟨3,1,(.ints .i64 [1,0])⟩)⟩
theorem ZHZ:Zaj Try.prog aw57.f aw57.args aw57.r aw57.fr:=Zac (n:=100000) (l:=[aw23,aw24,aw27,aw30,aw31,aw32,aw35,aw36,aw39,aw42,aw43,aw44,aw47,aw50,aw53,aw56]) follows Zae ⟨Zyw,⟨ZEL,⟨ZE0,⟨ZGo,⟨ZHf,⟨ZEa,⟨Zyg,⟨ZHx,⟨Zx3,⟨Zxu,⟨ZEZ,⟨ZEc,⟨ZwN,⟨ZyC,⟨Zxz,⟨ZwY,trivial⟩⟩⟩⟩⟩⟩⟩⟩⟩⟩⟩⟩⟩⟩⟩⟩ (by kernel_rfl)
def aw58:Fact:=⟨13,[(.agg (.gen [(.int .i64 2),(.int .i64 7),(.int .i64 5)])),(.list (.ints .i64 [(-1),(-1),1,1,(-1),(-1),1,1]))],(.tup [(.row 0 0),(.int .i64 6),(.int .i64 0)]),(some ⟨3,1,(.ints .i64 [1,0])⟩)⟩
theorem ZFP:Zaj Try.prog aw58.f aw58.args aw58.r aw58.fr:=Zac (n:=100000) (l:=[aw11,aw22,aw57]) follows Zae ⟨ZxK,⟨ZHn,⟨ZHZ,trivial⟩⟩⟩ (by kernel_rfl)
def aw59:Fact:=⟨60,[(.int .i64 1)],(.row 0 0),(some ⟨3,1,(.ints .i64 [0,0,0,0,0,0,0,0,0,0,0,0,1])⟩)⟩
theorem ZFH:Zaj Try.prog aw59.f aw59.args aw59.r aw59.fr:=Zac (n:=100000) (l:=[]) follows Zae trivial (by kernel_rfl)
def aw60:Fact:=⟨91,[(.int .i64 1),(.int .i64 1),(.int .i64 3)],(.bool true),none⟩
theorem ZFv:Zaj Try.prog aw60.f aw60.args aw60.r aw60.fr:=Zac (n:=100000) (l:=[]) follows Zae trivial (by kernel_rfl)
def aw61:Fact:=⟨73,[(.int .i64 1)],(.int .i64 0),none⟩
theorem ZFA:Zaj Try.prog aw61.f aw61.args aw61.r aw61.fr:=Zac (n:=100000) (l:=[aw60,aw9]) follows Zae ⟨ZFv,⟨Zmf,trivial⟩⟩ (by kernel_rfl)
def aw62:Fact:=⟨91,[(.int .i64 0),(.int .i64 0),(.int .i64 15)],(.bool true),none⟩
theorem ZHy:Zaj Try.prog aw62.f aw62.args aw62.r aw62.fr:=Zac (n:=100000) (l:=[]) follows Zae trivial (by kernel_rfl)
def aw63:Fact:=⟨111,[(.int .i64 0),(.eptr (.int .i64 0) 0),(.eptr (.int .i64 15) 0)],(.bool false),none⟩
theorem ZHD:Zaj Try.prog aw63.f aw63.args aw63.r aw63.fr:=Zac (n:=100000) (l:=[aw62]) follows Zae ⟨ZHy,trivial⟩ (by kernel_rfl)
def aw64:Fact:=⟨91,[(.int .i64 1),(.int .i64 0),(.int .i64 15)],(.bool true),none⟩
theorem ZFm:Zaj Try.prog aw64.f aw64.args aw64.r aw64.fr:=Zac (n:=100000) (l:=[]) follows Zae trivial (by kernel_rfl)
def aw65:Fact:=⟨111,[(.int .i64 1),(.eptr (.int .i64 0) 0),(.eptr (.int .i64 15) 0)],(.bool false),none⟩
theorem ZGd:Zaj Try.prog aw65.f aw65.args aw65.r aw65.fr:=Zac (n:=100000) (l:=[aw64]) follows Zae ⟨ZFm,trivial⟩ (by kernel_rfl)
def aw66:Fact:=⟨123,[(.list (.ints .i64 [0,0,0,0,0,0,0,0,0,0,0,0,1])),(.fn 111 [(.eptr (.int .i64 0) 0),(.eptr (.int .i64 15) 0)])],(.int .i64 (-1)),none⟩
theorem ZGt:Zaj Try.prog aw66.f aw66.args aw66.r aw66.fr:=Zac (n:=100000) (l:=[aw63,aw65]) follows Zae ⟨ZHD,⟨ZGd,trivial⟩⟩ (by kernel_rfl)
def aw67:Fact:=⟨110,[(.list (.ints .i64 [0,0,0,0,0,0,0,0,0,0,0,0,1])),(.fn 111 [(.eptr (.int .i64 0) 0),(.eptr (.int .i64 15) 0)])],(.bool false),none⟩
theorem ZFD:Zaj Try.prog aw67.f aw67.args aw67.r aw67.fr:=Zac (n:=100000) (l:=[aw66]) follows Zae ⟨ZGt,trivial⟩ (by kernel_rfl)
def aw68:Fact:=⟨70,[(.list (.ints .i64 [0,0,0,0,0,0,0,0,0,0,0,0,1])),(.int .i64 0),(.int .i64 15)],(.int .i64 0),none⟩
theorem ZEf:Zaj Try.prog aw68.f aw68.args aw68.r aw68.fr:=Zac (n:=100000) (l:=[aw67,aw9]) follows Zae ⟨ZFD,⟨Zmf,trivial⟩⟩ (by kernel_rfl)
def aw69:Fact:=⟨72,[(.list (.ints .i64 [0,0]))],(.int .i64 0),none⟩
theorem Zpy:Zaj Try.prog aw69.f aw69.args aw69.r aw69.fr:=Zac (n:=100000) (l:=[]) follows Zae trivial (by kernel_rfl)
def aw70:Fact:=⟨74,[(.list (.ints .i64 [0,0,0,0,0,0,0,0,0,0,0,0,1])),(.int .i64 13)],(.int .i64 0),none⟩
theorem ZHh:Zaj Try.prog aw70.f aw70.args aw70.r aw70.fr:=Zac (n:=100000) (l:=[aw12,aw68,aw69]) follows Zae ⟨ZrY,⟨ZEf,⟨Zpy,trivial⟩⟩⟩ (by kernel_rfl)
def aw71:Fact:=⟨71,[(.int .i64 1),(.int .i64 2)],(.int .i64 2),none⟩
theorem Za1:Zaj Try.prog aw71.f aw71.args aw71.r aw71.fr:=Zac (n:=100000) (l:=[]) follows Zae trivial (by kernel_rfl)
def aw72:Fact:=⟨71,[(.int .i64 2),(.int .i64 2)],(.int .i64 4),none⟩
theorem Za4:Zaj Try.prog aw72.f aw72.args aw72.r aw72.fr:=Zac (n:=100000) (l:=[]) follows Zae trivial (by kernel_rfl)
def aw73:Fact:=⟨71,[(.int .i64 4),(.int .i64 2)],(.int .i64 8),none⟩
theorem Zbg:Zaj Try.prog aw73.f aw73.args aw73.r aw73.fr:=Zac (n:=100000) (l:=[]) follows Zae trivial (by kernel_rfl)
def aw74:Fact:=⟨71,[(.int .i64 8),(.int .i64 2)],(.int .i64 3),none⟩
theorem Zbt:Zaj Try.prog aw74.f aw74.args aw74.r aw74.fr:=Zac (n:=100000) (l:=[]) follows Zae trivial (by kernel_rfl)
def aw75:Fact:=⟨71,[(.int .i64 3),(.int .i64 2)],(.int .i64 6),none⟩
theorem Zbu:Zaj Try.prog aw75.f aw75.args aw75.r aw75.fr:=Zac (n:=100000) (l:=[]) follows Zae trivial (by kernel_rfl)
def aw76:Fact:=⟨71,[(.int .i64 6),(.int .i64 2)],(.int .i64 12),none⟩
theorem Zb2:Zaj Try.prog aw76.f aw76.args aw76.r aw76.fr:=Zac (n:=100000) (l:=[]) follows Zae trivial (by kernel_rfl)
def aw77:Fact:=⟨71,[(.int .i64 12),(.int .i64 2)],(.int .i64 11),none⟩
theorem Zcn:Zaj Try.prog aw77.f aw77.args aw77.r aw77.fr:=Zac (n:=100000) (l:=[]) follows Zae trivial (by kernel_rfl)
def aw78:Fact:=⟨71,[(.int .i64 11),(.int .i64 2)],(.int .i64 5),none⟩
theorem Zdc:Zaj Try.prog aw78.f aw78.args aw78.r aw78.fr:=Zac (n:=100000) (l:=[]) follows Zae trivial (by kernel_rfl)
def aw79:Fact:=⟨71,[(.int .i64 5),(.int .i64 2)],(.int .i64 10),none⟩
theorem ZdX:Zaj Try.prog aw79.f aw79.args aw79.r aw79.fr:=Zac (n:=100000) (l:=[]) follows Zae trivial (by kernel_rfl)
def aw80:Fact:=⟨71,[(.int .i64 10),(.int .i64 2)],(.int .i64 7),none⟩
theorem Zgg:Zaj Try.prog aw80.f aw80.args aw80.r aw80.fr:=Zac (n:=100000) (l:=[]) follows Zae trivial (by kernel_rfl)
def aw81:Fact:=⟨71,[(.int .i64 7),(.int .i64 2)],(.int .i64 14),none⟩
theorem ZhW:Zaj Try.prog aw81.f aw81.args aw81.r aw81.fr:=Zac (n:=100000) (l:=[]) follows Zae trivial (by kernel_rfl)
def aw82:Fact:=⟨71,[(.int .i64 14),(.int .i64 2)],(.int .i64 15),none⟩
theorem ZpC:Zaj Try.prog aw82.f aw82.args aw82.r aw82.fr:=Zac (n:=100000) (l:=[]) follows Zae trivial (by kernel_rfl)
def aw83:Fact:=⟨71,[(.int .i64 15),(.int .i64 2)],(.int .i64 13),none⟩
theorem Zr0:Zaj Try.prog aw83.f aw83.args aw83.r aw83.fr:=Zac (n:=100000) (l:=[]) follows Zae trivial (by kernel_rfl)
def aw84:Fact:=⟨71,[(.int .i64 13),(.int .i64 2)],(.int .i64 9),none⟩
theorem ZGq:Zaj Try.prog aw84.f aw84.args aw84.r aw84.fr:=Zac (n:=100000) (l:=[]) follows Zae trivial (by kernel_rfl)
def aw85:Fact:=⟨117,[(.int .i64 14)],(.int .i64 9),none⟩
theorem Zx7:Zaj Try.prog aw85.f aw85.args aw85.r aw85.fr:=Zac (n:=100000) (l:=[aw71,aw72,aw73,aw74,aw75,aw76,aw77,aw78,aw79,aw80,aw81,aw82,aw83,aw84]) follows Zae ⟨Za1,⟨Za4,⟨Zbg,⟨Zbt,⟨Zbu,⟨Zb2,⟨Zcn,⟨Zdc,⟨ZdX,⟨Zgg,⟨ZhW,⟨ZpC,⟨Zr0,⟨ZGq,trivial⟩⟩⟩⟩⟩⟩⟩⟩⟩⟩⟩⟩⟩⟩ (by kernel_rfl)
def aw86:Fact:=⟨71,[(.int .i64 0),(.int .i64 9)],(.int .i64 0),none⟩
theorem ZsE:Zaj Try.prog aw86.f aw86.args aw86.r aw86.fr:=Zac (n:=100000) (l:=[]) follows Zae trivial (by kernel_rfl)
def aw87:Fact:=⟨117,[(.int .i64 13)],(.int .i64 13),none⟩
theorem ZGu:Zaj Try.prog aw87.f aw87.args aw87.r aw87.fr:=Zac (n:=100000) (l:=[aw71,aw72,aw73,aw74,aw75,aw76,aw77,aw78,aw79,aw80,aw81,aw82,aw83]) follows Zae ⟨Za1,⟨Za4,⟨Zbg,⟨Zbt,⟨Zbu,⟨Zb2,⟨Zcn,⟨Zdc,⟨ZdX,⟨Zgg,⟨ZhW,⟨ZpC,⟨Zr0,trivial⟩⟩⟩⟩⟩⟩⟩⟩⟩⟩⟩⟩⟩ (by kernel_rfl)
def aw88:Fact:=⟨71,[(.int .i64 0),(.int .i64 13)],(.int .i64 0),none⟩
theorem ZvZ:Zaj Try.prog aw88.f aw88.args aw88.r aw88.fr:=Zac (n:=100000) (l:=[]) follows Zae trivial (by kernel_rfl)
def aw89:Fact:=⟨117,[(.int .i64 12)],(.int .i64 15),none⟩
theorem ZyL:Zaj Try.prog aw89.f aw89.args aw89.r aw89.fr:=Zac (n:=100000) (l:=[aw71,aw72,aw73,aw74,aw75,aw76,aw77,aw78,aw79,aw80,aw81,aw82]) follows Zae ⟨Za1,⟨Za4,⟨Zbg,⟨Zbt,⟨Zbu,⟨Zb2,⟨Zcn,⟨Zdc,⟨ZdX,⟨Zgg,⟨ZhW,⟨ZpC,trivial⟩⟩⟩⟩⟩⟩⟩⟩⟩⟩⟩⟩ (by kernel_rfl)
def aw90:Fact:=⟨71,[(.int .i64 0),(.int .i64 15)],(.int .i64 0),none⟩
theorem Zwa:Zaj Try.prog aw90.f aw90.args aw90.r aw90.fr:=Zac (n:=100000) (l:=[]) follows Zae trivial (by kernel_rfl)
def aw91:Fact:=⟨117,[(.int .i64 11)],(.int .i64 14),none⟩
theorem ZEy:Zaj Try.prog aw91.f aw91.args aw91.r aw91.fr:=Zac (n:=100000) (l:=[aw71,aw72,aw73,aw74,aw75,aw76,aw77,aw78,aw79,aw80,aw81]) follows Zae ⟨Za1,⟨Za4,⟨Zbg,⟨Zbt,⟨Zbu,⟨Zb2,⟨Zcn,⟨Zdc,⟨ZdX,⟨Zgg,⟨ZhW,trivial⟩⟩⟩⟩⟩⟩⟩⟩⟩⟩⟩ (by kernel_rfl)
def aw92:Fact:=⟨71,[(.int .i64 0),(.int .i64 14)],(.int .i64 0),none⟩
theorem Zsa:Zaj Try.prog aw92.f aw92.args aw92.r aw92.fr:=Zac (n:=100000) (l:=[]) follows Zae trivial (by kernel_rfl)
def aw93:Fact:=⟨117,[(.int .i64 10)],(.int .i64 7),none⟩
theorem Zyi:Zaj Try.prog aw93.f aw93.args aw93.r aw93.fr:=Zac (n:=100000) (l:=[aw71,aw72,aw73,aw74,aw75,aw76,aw77,aw78,aw79,aw80]) follows Zae ⟨Za1,⟨Za4,⟨Zbg,⟨Zbt,⟨Zbu,⟨Zb2,⟨Zcn,⟨Zdc,⟨ZdX,⟨Zgg,trivial⟩⟩⟩⟩⟩⟩⟩⟩⟩⟩ (by kernel_rfl)
def aw94:Fact:=⟨71,[(.int .i64 0),(.int .i64 7)],(.int .i64 0),none⟩
theorem Zxi:Zaj Try.prog aw94.f aw94.args aw94.r aw94.fr:=Zac (n:=100000) (l:=[]) follows Zae trivial (by kernel_rfl)
def aw95:Fact:=⟨117,[(.int .i64 9)],(.int .i64 10),none⟩
theorem ZHu:Zaj Try.prog aw95.f aw95.args aw95.r aw95.fr:=Zac (n:=100000) (l:=[aw71,aw72,aw73,aw74,aw75,aw76,aw77,aw78,aw79]) follows Zae ⟨Za1,⟨Za4,⟨Zbg,⟨Zbt,⟨Zbu,⟨Zb2,⟨Zcn,⟨Zdc,⟨ZdX,trivial⟩⟩⟩⟩⟩⟩⟩⟩⟩ (by kernel_rfl)
def aw96:Fact:=⟨71,[(.int .i64 0),(.int .i64 10)],(.int .i64 0),none⟩
theorem ZwC:Zaj Try.prog aw96.f aw96.args aw96.r aw96.fr:=Zac (n:=100000) (l:=[]) follows Zae trivial (by kernel_rfl)
def aw97:Fact:=⟨117,[(.int .i64 8)],(.int .i64 5),none⟩
theorem Zxx:Zaj Try.prog aw97.f aw97.args aw97.r aw97.fr:=Zac (n:=100000) (l:=[aw71,aw72,aw73,aw74,aw75,aw76,aw77,aw78]) follows Zae ⟨Za1,⟨Za4,⟨Zbg,⟨Zbt,⟨Zbu,⟨Zb2,⟨Zcn,⟨Zdc,trivial⟩⟩⟩⟩⟩⟩⟩⟩ (by kernel_rfl)
def aw98:Fact:=⟨71,[(.int .i64 0),(.int .i64 5)],(.int .i64 0),none⟩
theorem ZyM:Zaj Try.prog aw98.f aw98.args aw98.r aw98.fr:=Zac (n:=100000) (l:=[]) follows Zae trivial (by kernel_rfl)
def aw99:Fact:=⟨117,[(.int .i64 7)],(.int .i64 11),none⟩
theorem ZEX:Zaj Try.prog aw99.f aw99.args aw99.r aw99.fr:=Zac (n:=100000) (l:=[aw71,aw72,aw73,aw74,aw75,aw76,aw77]) follows Zae ⟨Za1,⟨Za4,⟨Zbg,⟨Zbt,⟨Zbu,⟨Zb2,⟨Zcn,trivial⟩⟩⟩⟩⟩⟩⟩ (by kernel_rfl)
def aw100:Fact:=⟨71,[(.int .i64 0),(.int .i64 11)],(.int .i64 0),none⟩
theorem Ztc:Zaj Try.prog aw100.f aw100.args aw100.r aw100.fr:=Zac (n:=100000) (l:=[]) follows Zae trivial (by kernel_rfl)
def aw101:Fact:=⟨117,[(.int .i64 6)],(.int .i64 12),none⟩
theorem Ztl:Zaj Try.prog aw101.f aw101.args aw101.r aw101.fr:=Zac (n:=100000) (l:=[aw71,aw72,aw73,aw74,aw75,aw76]) follows Zae ⟨Za1,⟨Za4,⟨Zbg,⟨Zbt,⟨Zbu,⟨Zb2,trivial⟩⟩⟩⟩⟩⟩ (by kernel_rfl)
def aw102:Fact:=⟨71,[(.int .i64 0),(.int .i64 12)],(.int .i64 0),none⟩
theorem Zt4:Zaj Try.prog aw102.f aw102.args aw102.r aw102.fr:=Zac (n:=100000) (l:=[]) follows Zae trivial (by kernel_rfl)
def aw103:Fact:=⟨117,[(.int .i64 5)],(.int .i64 6),none⟩
theorem Zy1:Zaj Try.prog aw103.f aw103.args aw103.r aw103.fr:=Zac (n:=100000) (l:=[aw71,aw72,aw73,aw74,aw75]) follows Zae ⟨Za1,⟨Za4,⟨Zbg,⟨Zbt,⟨Zbu,trivial⟩⟩⟩⟩⟩ (by kernel_rfl)
def aw104:Fact:=⟨71,[(.int .i64 0),(.int .i64 6)],(.int .i64 0),none⟩
theorem ZtH:Zaj Try.prog aw104.f aw104.args aw104.r aw104.fr:=Zac (n:=100000) (l:=[]) follows Zae trivial (by kernel_rfl)
def aw105:Fact:=⟨117,[(.int .i64 4)],(.int .i64 3),none⟩
theorem Zuf:Zaj Try.prog aw105.f aw105.args aw105.r aw105.fr:=Zac (n:=100000) (l:=[aw71,aw72,aw73,aw74]) follows Zae ⟨Za1,⟨Za4,⟨Zbg,⟨Zbt,trivial⟩⟩⟩⟩ (by kernel_rfl)
def aw106:Fact:=⟨71,[(.int .i64 0),(.int .i64 3)],(.int .i64 0),none⟩
theorem ZA4:Zaj Try.prog aw106.f aw106.args aw106.r aw106.fr:=Zac (n:=100000) (l:=[]) follows Zae trivial (by kernel_rfl)
def aw107:Fact:=⟨117,[(.int .i64 3)],(.int .i64 8),none⟩
theorem ZBA:Zaj Try.prog aw107.f aw107.args aw107.r aw107.fr:=Zac (n:=100000) (l:=[aw71,aw72,aw73]) follows Zae ⟨Za1,⟨Za4,⟨Zbg,trivial⟩⟩⟩ (by kernel_rfl)
def aw108:Fact:=⟨71,[(.int .i64 0),(.int .i64 8)],(.int .i64 0),none⟩
theorem Ztn:Zaj Try.prog aw108.f aw108.args aw108.r aw108.fr:=Zac (n:=100000) (l:=[]) follows Zae trivial (by kernel_rfl)
def aw109:Fact:=⟨117,[(.int .i64 2)],(.int .i64 4),none⟩
theorem ZpI:Zaj Try.prog aw109.f aw109.args aw109.r aw109.fr:=Zac (n:=100000) (l:=[aw71,aw72]) follows Zae ⟨Za1,⟨Za4,trivial⟩⟩ (by kernel_rfl)
def aw110:Fact:=⟨71,[(.int .i64 1),(.int .i64 4)],(.int .i64 4),none⟩
theorem ZsV:Zaj Try.prog aw110.f aw110.args aw110.r aw110.fr:=Zac (n:=100000) (l:=[]) follows Zae trivial (by kernel_rfl)
def aw111:Fact:=⟨117,[(.int .i64 1)],(.int .i64 2),none⟩
theorem Zt5:Zaj Try.prog aw111.f aw111.args aw111.r aw111.fr:=Zac (n:=100000) (l:=[aw71]) follows Zae ⟨Za1,trivial⟩ (by kernel_rfl)
def aw112:Fact:=⟨71,[(.int .i64 0),(.int .i64 2)],(.int .i64 0),none⟩
theorem ZtU:Zaj Try.prog aw112.f aw112.args aw112.r aw112.fr:=Zac (n:=100000) (l:=[]) follows Zae trivial (by kernel_rfl)
def aw113:Fact:=⟨117,[(.int .i64 0)],(.int .i64 1),none⟩
theorem Zpo:Zaj Try.prog aw113.f aw113.args aw113.r aw113.fr:=Zac (n:=100000) (l:=[]) follows Zae trivial (by kernel_rfl)
def aw114:Fact:=⟨71,[(.int .i64 0),(.int .i64 1)],(.int .i64 0),none⟩
theorem ZtG:Zaj Try.prog aw114.f aw114.args aw114.r aw114.fr:=Zac (n:=100000) (l:=[]) follows Zae trivial (by kernel_rfl)
def aw115:Fact:=⟨112,[(.agg (.ints .i64 [0,0,0,0,0,0,0,0,0,0,0,0,1,0,0])),(.int .i64 1)],(.int .i64 4),none⟩
theorem ZBe:Zaj Try.prog aw115.f aw115.args aw115.r aw115.fr:=Zac (n:=100000) (l:=[aw85,aw86,aw87,aw88,aw89,aw90,aw91,aw92,aw93,aw94,aw95,aw96,aw97,aw98,aw99,aw100,aw101,aw102,aw103,aw104,aw105,aw106,aw107,aw108,aw109,aw110,aw111,aw112,aw113,aw114]) follows Zae ⟨Zx7,⟨ZsE,⟨ZGu,⟨ZvZ,⟨ZyL,⟨Zwa,⟨ZEy,⟨Zsa,⟨Zyi,⟨Zxi,⟨ZHu,⟨ZwC,⟨Zxx,⟨ZyM,⟨ZEX,⟨Ztc,⟨Ztl,⟨Zt4,⟨Zy1,⟨ZtH,⟨Zuf,⟨ZA4,⟨ZBA,⟨Ztn,⟨ZpI,⟨ZsV,⟨Zt5,⟨ZtU,⟨Zpo,⟨ZtG,trivial⟩⟩⟩⟩⟩⟩⟩⟩⟩⟩⟩⟩⟩⟩⟩⟩⟩⟩⟩⟩⟩⟩⟩⟩⟩⟩⟩⟩⟩⟩ (by kernel_rfl)
def aw116:Fact:=⟨117,[(.int .i64 28)],(.int .i64 13),none⟩
theorem ZBZ:Zaj Try.prog aw116.f aw116.args aw116.r aw116.fr:=Zac (n:=100000) (l:=[aw71,aw72,aw73,aw74,aw75,aw76,aw77,aw78,aw79,aw80,aw81,aw82,aw83]) follows Zae ⟨Za1,⟨Za4,⟨Zbg,⟨Zbt,⟨Zbu,⟨Zb2,⟨Zcn,⟨Zdc,⟨ZdX,⟨Zgg,⟨ZhW,⟨ZpC,⟨Zr0,trivial⟩⟩⟩⟩⟩⟩⟩⟩⟩⟩⟩⟩⟩ (by kernel_rfl)
def aw117:Fact:=⟨117,[(.int .i64 26)],(.int .i64 14),none⟩
theorem ZBB:Zaj Try.prog aw117.f aw117.args aw117.r aw117.fr:=Zac (n:=100000) (l:=[aw71,aw72,aw73,aw74,aw75,aw76,aw77,aw78,aw79,aw80,aw81]) follows Zae ⟨Za1,⟨Za4,⟨Zbg,⟨Zbt,⟨Zbu,⟨Zb2,⟨Zcn,⟨Zdc,⟨ZdX,⟨Zgg,⟨ZhW,trivial⟩⟩⟩⟩⟩⟩⟩⟩⟩⟩⟩ (by kernel_rfl)
def aw118:Fact:=⟨117,[(.int .i64 24)],(.int .i64 10),none⟩
theorem ZBQ:Zaj Try.prog aw118.f aw118.args aw118.r aw118.fr:=Zac (n:=100000) (l:=[aw71,aw72,aw73,aw74,aw75,aw76,aw77,aw78,aw79]) follows Zae ⟨Za1,⟨Za4,⟨Zbg,⟨Zbt,⟨Zbu,⟨Zb2,⟨Zcn,⟨Zdc,⟨ZdX,trivial⟩⟩⟩⟩⟩⟩⟩⟩⟩ (by kernel_rfl)
def aw119:Fact:=⟨117,[(.int .i64 22)],(.int .i64 11),none⟩
theorem ZB5:Zaj Try.prog aw119.f aw119.args aw119.r aw119.fr:=Zac (n:=100000) (l:=[aw71,aw72,aw73,aw74,aw75,aw76,aw77]) follows Zae ⟨Za1,⟨Za4,⟨Zbg,⟨Zbt,⟨Zbu,⟨Zb2,⟨Zcn,trivial⟩⟩⟩⟩⟩⟩⟩ (by kernel_rfl)
def aw120:Fact:=⟨117,[(.int .i64 20)],(.int .i64 6),none⟩
theorem ZB2:Zaj Try.prog aw120.f aw120.args aw120.r aw120.fr:=Zac (n:=100000) (l:=[aw71,aw72,aw73,aw74,aw75]) follows Zae ⟨Za1,⟨Za4,⟨Zbg,⟨Zbt,⟨Zbu,trivial⟩⟩⟩⟩⟩ (by kernel_rfl)
def aw121:Fact:=⟨117,[(.int .i64 18)],(.int .i64 8),none⟩
theorem ZzM:Zaj Try.prog aw121.f aw121.args aw121.r aw121.fr:=Zac (n:=100000) (l:=[aw71,aw72,aw73]) follows Zae ⟨Za1,⟨Za4,⟨Zbg,trivial⟩⟩⟩ (by kernel_rfl)
def aw122:Fact:=⟨117,[(.int .i64 16)],(.int .i64 2),none⟩
theorem Zzi:Zaj Try.prog aw122.f aw122.args aw122.r aw122.fr:=Zac (n:=100000) (l:=[aw71]) follows Zae ⟨Za1,trivial⟩ (by kernel_rfl)
def aw123:Fact:=⟨71,[(.int .i64 1),(.int .i64 3)],(.int .i64 3),none⟩
theorem ZAR:Zaj Try.prog aw123.f aw123.args aw123.r aw123.fr:=Zac (n:=100000) (l:=[]) follows Zae trivial (by kernel_rfl)
def aw124:Fact:=⟨71,[(.int .i64 0),(.int .i64 4)],(.int .i64 0),none⟩
theorem ZzB:Zaj Try.prog aw124.f aw124.args aw124.r aw124.fr:=Zac (n:=100000) (l:=[]) follows Zae trivial (by kernel_rfl)
def aw125:Fact:=⟨112,[(.agg (.ints .i64 [0,0,0,0,0,0,0,0,0,0,0,0,1,0,0])),(.int .i64 2)],(.int .i64 3),none⟩
theorem ZzD:Zaj Try.prog aw125.f aw125.args aw125.r aw125.fr:=Zac (n:=100000) (l:=[aw116,aw88,aw117,aw92,aw118,aw96,aw119,aw100,aw120,aw104,aw121,aw108,aw122,aw112,aw85,aw86,aw89,aw90,aw93,aw94,aw97,aw98,aw101,aw102,aw105,aw123,aw109,aw124,aw113,aw114]) follows Zae ⟨ZBZ,⟨ZvZ,⟨ZBB,⟨Zsa,⟨ZBQ,⟨ZwC,⟨ZB5,⟨Ztc,⟨ZB2,⟨ZtH,⟨ZzM,⟨Ztn,⟨Zzi,⟨ZtU,⟨Zx7,⟨ZsE,⟨ZyL,⟨Zwa,⟨Zyi,⟨Zxi,⟨Zxx,⟨ZyM,⟨Ztl,⟨Zt4,⟨Zuf,⟨ZAR,⟨ZpI,⟨ZzB,⟨Zpo,⟨ZtG,trivial⟩⟩⟩⟩⟩⟩⟩⟩⟩⟩⟩⟩⟩⟩⟩⟩⟩⟩⟩⟩⟩⟩⟩⟩⟩⟩⟩⟩⟩⟩ (by kernel_rfl)
def aw126:Fact:=⟨75,[(.agg (.ints .i64 [0,0,0,0,0,0,0,0,0,0,0,0,1,0,0])),(.int .i64 1)],(.row 0 0),(some ⟨3,1,(.ints .i64 [4,3])⟩)⟩
theorem ZBg:Zaj Try.prog aw126.f aw126.args aw126.r aw126.fr:=Zac (n:=100000) (l:=[aw115,aw125]) follows Zae ⟨ZBe,⟨ZzD,trivial⟩⟩ (by kernel_rfl)
def aw127:Fact:=⟨71,[(.int .i64 2),(.int .i64 1)],(.int .i64 2),none⟩
theorem Zz0:Zaj Try.prog aw127.f aw127.args aw127.r aw127.fr:=Zac (n:=100000) (l:=[]) follows Zae trivial (by kernel_rfl)
def aw128:Fact:=⟨71,[(.int .i64 2),(.int .i64 3)],(.int .i64 6),none⟩
theorem ZzY:Zaj Try.prog aw128.f aw128.args aw128.r aw128.fr:=Zac (n:=100000) (l:=[]) follows Zae trivial (by kernel_rfl)
def aw129:Fact:=⟨71,[(.int .i64 2),(.int .i64 4)],(.int .i64 8),none⟩
theorem ZsQ:Zaj Try.prog aw129.f aw129.args aw129.r aw129.fr:=Zac (n:=100000) (l:=[]) follows Zae trivial (by kernel_rfl)
def aw130:Fact:=⟨71,[(.int .i64 2),(.int .i64 5)],(.int .i64 10),none⟩
theorem Zzr:Zaj Try.prog aw130.f aw130.args aw130.r aw130.fr:=Zac (n:=100000) (l:=[]) follows Zae trivial (by kernel_rfl)
def aw131:Fact:=⟨71,[(.int .i64 2),(.int .i64 6)],(.int .i64 12),none⟩
theorem ZAA:Zaj Try.prog aw131.f aw131.args aw131.r aw131.fr:=Zac (n:=100000) (l:=[]) follows Zae trivial (by kernel_rfl)
def aw132:Fact:=⟨71,[(.int .i64 2),(.int .i64 7)],(.int .i64 14),none⟩
theorem Zzw:Zaj Try.prog aw132.f aw132.args aw132.r aw132.fr:=Zac (n:=100000) (l:=[]) follows Zae trivial (by kernel_rfl)
def aw133:Fact:=⟨71,[(.int .i64 2),(.int .i64 8)],(.int .i64 3),none⟩
theorem ZzW:Zaj Try.prog aw133.f aw133.args aw133.r aw133.fr:=Zac (n:=100000) (l:=[]) follows Zae trivial (by kernel_rfl)
def aw134:Fact:=⟨71,[(.int .i64 2),(.int .i64 9)],(.int .i64 1),none⟩
theorem Zur:Zaj Try.prog aw134.f aw134.args aw134.r aw134.fr:=Zac (n:=100000) (l:=[]) follows Zae trivial (by kernel_rfl)
def aw135:Fact:=⟨128,[(.int .i64 2)],(.int .i64 9),none⟩
theorem ZAK:Zaj Try.prog aw135.f aw135.args aw135.r aw135.fr:=Zac (n:=100000) (l:=[aw127,aw72,aw128,aw129,aw130,aw131,aw132,aw133,aw134]) follows Zae ⟨Zz0,⟨Za4,⟨ZzY,⟨ZsQ,⟨Zzr,⟨ZAA,⟨Zzw,⟨ZzW,⟨Zur,trivial⟩⟩⟩⟩⟩⟩⟩⟩⟩ (by kernel_rfl)
def aw136:Fact:=⟨71,[(.int .i64 1),(.int .i64 9)],(.int .i64 9),none⟩
theorem ZzA:Zaj Try.prog aw136.f aw136.args aw136.r aw136.fr:=Zac (n:=100000) (l:=[]) follows Zae trivial (by kernel_rfl)
def aw137:Fact:=⟨71,[(.int .i64 4),(.int .i64 9)],(.int .i64 2),none⟩
theorem ZAi:Zaj Try.prog aw137.f aw137.args aw137.r aw137.fr:=Zac (n:=100000) (l:=[]) follows Zae trivial (by kernel_rfl)
def aw138:Fact:=⟨71,[(.int .i64 9),(.int .i64 4)],(.int .i64 2),none⟩
theorem ZAd:Zaj Try.prog aw138.f aw138.args aw138.r aw138.fr:=Zac (n:=100000) (l:=[]) follows Zae trivial (by kernel_rfl)
def aw139:Fact:=⟨71,[(.int .i64 3),(.int .i64 1)],(.int .i64 3),none⟩
theorem Zz8:Zaj Try.prog aw139.f aw139.args aw139.r aw139.fr:=Zac (n:=100000) (l:=[]) follows Zae trivial (by kernel_rfl)
def aw140:Fact:=⟨71,[(.int .i64 3),(.int .i64 3)],(.int .i64 5),none⟩
theorem ZyW:Zaj Try.prog aw140.f aw140.args aw140.r aw140.fr:=Zac (n:=100000) (l:=[]) follows Zae trivial (by kernel_rfl)
def aw141:Fact:=⟨71,[(.int .i64 3),(.int .i64 4)],(.int .i64 12),none⟩
theorem ZAj:Zaj Try.prog aw141.f aw141.args aw141.r aw141.fr:=Zac (n:=100000) (l:=[]) follows Zae trivial (by kernel_rfl)
def aw142:Fact:=⟨71,[(.int .i64 3),(.int .i64 5)],(.int .i64 15),none⟩
theorem ZAM:Zaj Try.prog aw142.f aw142.args aw142.r aw142.fr:=Zac (n:=100000) (l:=[]) follows Zae trivial (by kernel_rfl)
def aw143:Fact:=⟨71,[(.int .i64 3),(.int .i64 6)],(.int .i64 10),none⟩
theorem Zzy:Zaj Try.prog aw143.f aw143.args aw143.r aw143.fr:=Zac (n:=100000) (l:=[]) follows Zae trivial (by kernel_rfl)
def aw144:Fact:=⟨71,[(.int .i64 3),(.int .i64 7)],(.int .i64 9),none⟩
theorem Zzg:Zaj Try.prog aw144.f aw144.args aw144.r aw144.fr:=Zac (n:=100000) (l:=[]) follows Zae trivial (by kernel_rfl)
def aw145:Fact:=⟨71,[(.int .i64 3),(.int .i64 8)],(.int .i64 11),none⟩
theorem ZBk:Zaj Try.prog aw145.f aw145.args aw145.r aw145.fr:=Zac (n:=100000) (l:=[]) follows Zae trivial (by kernel_rfl)
def aw146:Fact:=⟨71,[(.int .i64 3),(.int .i64 9)],(.int .i64 8),none⟩
theorem Zy3:Zaj Try.prog aw146.f aw146.args aw146.r aw146.fr:=Zac (n:=100000) (l:=[]) follows Zae trivial (by kernel_rfl)
def aw147:Fact:=⟨71,[(.int .i64 3),(.int .i64 10)],(.int .i64 13),none⟩
theorem ZAl:Zaj Try.prog aw147.f aw147.args aw147.r aw147.fr:=Zac (n:=100000) (l:=[]) follows Zae trivial (by kernel_rfl)
def aw148:Fact:=⟨71,[(.int .i64 3),(.int .i64 11)],(.int .i64 14),none⟩
theorem Zy5:Zaj Try.prog aw148.f aw148.args aw148.r aw148.fr:=Zac (n:=100000) (l:=[]) follows Zae trivial (by kernel_rfl)
def aw149:Fact:=⟨71,[(.int .i64 3),(.int .i64 12)],(.int .i64 7),none⟩
theorem ZBT:Zaj Try.prog aw149.f aw149.args aw149.r aw149.fr:=Zac (n:=100000) (l:=[]) follows Zae trivial (by kernel_rfl)
def aw150:Fact:=⟨71,[(.int .i64 3),(.int .i64 13)],(.int .i64 4),none⟩
theorem ZA5:Zaj Try.prog aw150.f aw150.args aw150.r aw150.fr:=Zac (n:=100000) (l:=[]) follows Zae trivial (by kernel_rfl)
def aw151:Fact:=⟨71,[(.int .i64 3),(.int .i64 14)],(.int .i64 1),none⟩
theorem Ztu:Zaj Try.prog aw151.f aw151.args aw151.r aw151.fr:=Zac (n:=100000) (l:=[]) follows Zae trivial (by kernel_rfl)
def aw152:Fact:=⟨128,[(.int .i64 3)],(.int .i64 14),none⟩
theorem Zz4:Zaj Try.prog aw152.f aw152.args aw152.r aw152.fr:=Zac (n:=100000) (l:=[aw139,aw75,aw140,aw141,aw142,aw143,aw144,aw145,aw146,aw147,aw148,aw149,aw150,aw151]) follows Zae ⟨Zz8,⟨Zbu,⟨ZyW,⟨ZAj,⟨ZAM,⟨Zzy,⟨Zzg,⟨ZBk,⟨Zy3,⟨ZAl,⟨Zy5,⟨ZBT,⟨ZA5,⟨Ztu,trivial⟩⟩⟩⟩⟩⟩⟩⟩⟩⟩⟩⟩⟩⟩ (by kernel_rfl)
def aw153:Fact:=⟨71,[(.int .i64 11),(.int .i64 14)],(.int .i64 8),none⟩
theorem ZAs:Zaj Try.prog aw153.f aw153.args aw153.r aw153.fr:=Zac (n:=100000) (l:=[]) follows Zae trivial (by kernel_rfl)
def aw154:Fact:=⟨71,[(.int .i64 8),(.int .i64 9)],(.int .i64 4),none⟩
theorem ZBq:Zaj Try.prog aw154.f aw154.args aw154.r aw154.fr:=Zac (n:=100000) (l:=[]) follows Zae trivial (by kernel_rfl)
def aw155:Fact:=⟨92,[(.agg (.ints .i64 [0,0,0,0,0,0,0,0,0,0,0,0,1,0,0])),(.int .i64 1),(.list (.ints .i64 [13,14]))],(.tup [(.agg (.ints .i64 [0,0,0,0,0,0,0,0,0,0,0,0,1,6,8])),(.bool true)]),none⟩
theorem ZAS:Zaj Try.prog aw155.f aw155.args aw155.r aw155.fr:=Zac (n:=100000) (l:=[aw126,aw111,aw113,aw109,aw135,aw134,aw136,aw137,aw110,aw138,aw129,aw152,aw92,aw151,aw153,aw86,aw154]) follows Zae ⟨ZBg,⟨Zt5,⟨Zpo,⟨ZpI,⟨ZAK,⟨Zur,⟨ZzA,⟨ZAi,⟨ZsV,⟨ZAd,⟨ZsQ,⟨Zz4,⟨Zsa,⟨Ztu,⟨ZAs,⟨ZsE,⟨ZBq,trivial⟩⟩⟩⟩⟩⟩⟩⟩⟩⟩⟩⟩⟩⟩⟩⟩⟩ (by kernel_rfl)
def aw156:Fact:=⟨76,[(.int .i64 1),(.list (.ints .i64 [0,0,0,0,0,0,0,0,0,0,0,0,1]))],(.agg (.ints .i64 [0,0,0,0,0,0,0,0,0,0,0,0,1,6,8])),none⟩
theorem Zy0:Zaj Try.prog aw156.f aw156.args aw156.r aw156.fr:=Zac (n:=100000) (l:=[aw155]) follows Zae ⟨ZAS,trivial⟩ (by kernel_rfl)
def aw157:Fact:=⟨62,[],(.agg (.gen [(.int .i64 3),(.list (.gen [(.list (.ints .i64 [0,1])),(.list (.ints .i64 [1,2]))]))])),none⟩
theorem ZAx:Zaj Try.prog aw157.f aw157.args aw157.r aw157.fr:=Zac (n:=100000) (l:=[]) follows Zae trivial (by kernel_rfl)
def aw158:Fact:=⟨91,[(.int .i64 3),(.int .i64 1),(.int .i64 24)],(.bool true),none⟩
theorem ZzO:Zaj Try.prog aw158.f aw158.args aw158.r aw158.fr:=Zac (n:=100000) (l:=[]) follows Zae trivial (by kernel_rfl)
def aw159:Fact:=⟨91,[(.int .i64 0),(.int .i64 0),(.int .i64 2)],(.bool true),none⟩
theorem Zzs:Zaj Try.prog aw159.f aw159.args aw159.r aw159.fr:=Zac (n:=100000) (l:=[]) follows Zae trivial (by kernel_rfl)
def aw160:Fact:=⟨85,[(.bool true),(.int .i64 6)],(.int .i64 0),none⟩
theorem ZBl:Zaj Try.prog aw160.f aw160.args aw160.r aw160.fr:=Zac (n:=100000) (l:=[]) follows Zae trivial (by kernel_rfl)
def aw161:Fact:=⟨85,[(.bool true),(.int .i64 9)],(.int .i64 0),none⟩
theorem ZBU:Zaj Try.prog aw161.f aw161.args aw161.r aw161.fr:=Zac (n:=100000) (l:=[]) follows Zae trivial (by kernel_rfl)
def aw162:Fact:=⟨91,[(.int .i64 1),(.int .i64 0),(.int .i64 2)],(.bool true),none⟩
theorem Zz5:Zaj Try.prog aw162.f aw162.args aw162.r aw162.fr:=Zac (n:=100000) (l:=[]) follows Zae trivial (by kernel_rfl)
def aw163:Fact:=⟨91,[(.int .i64 2),(.int .i64 0),(.int .i64 2)],(.bool true),none⟩
theorem ZBd:Zaj Try.prog aw163.f aw163.args aw163.r aw163.fr:=Zac (n:=100000) (l:=[]) follows Zae trivial (by kernel_rfl)
def aw164:Fact:=⟨132,[(.agg (.gen [(.int .i64 3),(.list (.gen [(.list (.ints .i64 [0,1])),(.list (.ints .i64 [1,2]))]))]))],(.tup [(.int .i64 0),(.int .i64 0)]),none⟩
theorem ZA8:Zaj Try.prog aw164.f aw164.args aw164.r aw164.fr:=Zac (n:=100000) (l:=[aw158,aw9,aw13,aw69,aw159,aw160,aw161,aw162,aw163]) follows Zae ⟨ZzO,⟨Zmf,⟨ZwT,⟨Zpy,⟨Zzs,⟨ZBl,⟨ZBU,⟨Zz5,⟨ZBd,trivial⟩⟩⟩⟩⟩⟩⟩⟩⟩ (by kernel_rfl)
def aw165:Fact:=⟨120,[(.agg (.gen [(.int .i64 3),(.list (.gen [(.list (.ints .i64 [0,1])),(.list (.ints .i64 [1,2]))]))]))],(.int .i64 0),none⟩
theorem ZAW:Zaj Try.prog aw165.f aw165.args aw165.r aw165.fr:=Zac (n:=100000) (l:=[aw164]) follows Zae ⟨ZA8,trivial⟩ (by kernel_rfl)
def aw166:Fact:=⟨91,[(.int .i64 1),(.int .i64 0),(.int .i64 1)],(.bool true),none⟩
theorem Zzh:Zaj Try.prog aw166.f aw166.args aw166.r aw166.fr:=Zac (n:=100000) (l:=[]) follows Zae trivial (by kernel_rfl)
def aw167:Fact:=⟨111,[(.int .i64 1),(.eptr (.int .i64 0) 0),(.eptr (.int .i64 1) 0)],(.bool false),none⟩
theorem Zz3:Zaj Try.prog aw167.f aw167.args aw167.r aw167.fr:=Zac (n:=100000) (l:=[aw166]) follows Zae ⟨Zzh,trivial⟩ (by kernel_rfl)
def aw168:Fact:=⟨91,[(.int .i64 0),(.int .i64 0),(.int .i64 1)],(.bool true),none⟩
theorem ZBS:Zaj Try.prog aw168.f aw168.args aw168.r aw168.fr:=Zac (n:=100000) (l:=[]) follows Zae trivial (by kernel_rfl)
def aw169:Fact:=⟨111,[(.int .i64 0),(.eptr (.int .i64 0) 0),(.eptr (.int .i64 1) 0)],(.bool false),none⟩
theorem ZAk:Zaj Try.prog aw169.f aw169.args aw169.r aw169.fr:=Zac (n:=100000) (l:=[aw168]) follows Zae ⟨ZBS,trivial⟩ (by kernel_rfl)
def aw170:Fact:=⟨123,[(.list (.ints .i64 [1,0,0])),(.fn 111 [(.eptr (.int .i64 0) 0),(.eptr (.int .i64 1) 0)])],(.int .i64 (-1)),none⟩
theorem ZyX:Zaj Try.prog aw170.f aw170.args aw170.r aw170.fr:=Zac (n:=100000) (l:=[aw167,aw169]) follows Zae ⟨Zz3,⟨ZAk,trivial⟩⟩ (by kernel_rfl)
def aw171:Fact:=⟨110,[(.list (.ints .i64 [1,0,0])),(.fn 111 [(.eptr (.int .i64 0) 0),(.eptr (.int .i64 1) 0)])],(.bool false),none⟩
theorem ZzQ:Zaj Try.prog aw171.f aw171.args aw171.r aw171.fr:=Zac (n:=100000) (l:=[aw170]) follows Zae ⟨ZyX,trivial⟩ (by kernel_rfl)
def aw172:Fact:=⟨70,[(.list (.ints .i64 [1,0,0])),(.int .i64 0),(.int .i64 1)],(.int .i64 0),none⟩
theorem ZzP:Zaj Try.prog aw172.f aw172.args aw172.r aw172.fr:=Zac (n:=100000) (l:=[aw171,aw9]) follows Zae ⟨ZzQ,⟨Zmf,trivial⟩⟩ (by kernel_rfl)
def aw173:Fact:=⟨103,[(.agg (.gen [(.int .i64 3),(.list (.gen [(.list (.ints .i64 [0,1])),(.list (.ints .i64 [1,2]))]))])),(.list (.ints .i64 [1,0,0]))],(.int .i64 0),none⟩
theorem ZBx:Zaj Try.prog aw173.f aw173.args aw173.r aw173.fr:=Zac (n:=100000) (l:=[aw165,aw12,aw172,aw21]) follows Zae ⟨ZAW,⟨ZrY,⟨ZzP,⟨ZvY,trivial⟩⟩⟩⟩ (by kernel_rfl)
def aw174:Fact:=⟨91,[(.int .i64 5),(.int .i64 0),(.int .i64 30)],(.bool true),none⟩
theorem ZBM:Zaj Try.prog aw174.f aw174.args aw174.r aw174.fr:=Zac (n:=100000) (l:=[]) follows Zae trivial (by kernel_rfl)
def aw175:Fact:=⟨104,[(.list (.ints .i64 [1,0,0]))],(.row 0 0),(some ⟨3,1,(.ints .i64 [1,0,0])⟩)⟩
theorem Zuc:Zaj Try.prog aw175.f aw175.args aw175.r aw175.fr:=ZkS _ (by decide)
def aw176:Fact:=⟨105,[(.agg (.gen [(.int .i64 3),(.list (.gen [(.list (.ints .i64 [0,1])),(.list (.ints .i64 [1,2]))]))])),(.list (.ints .i64 [1,0,0]))],(.row 0 0),(some ⟨3,1,(.ints .i64 [0])⟩)⟩
theorem Zun:Zaj Try.prog aw176.f aw176.args aw176.r aw176.fr:=Zac (n:=100000) (l:=[]) follows Zae trivial (by kernel_rfl)
def aw177:Fact:=⟨133,[(.list (.ints .i64 [0])),(.int .i64 0)],(.int .i64 0),none⟩
theorem ZBf:Zaj Try.prog aw177.f aw177.args aw177.r aw177.fr:=Zac (n:=100000) (l:=[]) follows Zae trivial (by kernel_rfl)
def aw178:Fact:=⟨121,[(.list (.ints .i64 [0])),(.int .i64 0)],(.bool true),none⟩
theorem Zzp:Zaj Try.prog aw178.f aw178.args aw178.r aw178.fr:=Zac (n:=100000) (l:=[aw177]) follows Zae ⟨ZBf,trivial⟩ (by kernel_rfl)
def aw179:Fact:=⟨133,[(.list (.ints .i64 [0])),(.int .i64 1)],(.int .i64 (-1)),none⟩
theorem ZAb:Zaj Try.prog aw179.f aw179.args aw179.r aw179.fr:=Zac (n:=100000) (l:=[]) follows Zae trivial (by kernel_rfl)
def aw180:Fact:=⟨121,[(.list (.ints .i64 [0])),(.int .i64 1)],(.bool false),none⟩
theorem ZAp:Zaj Try.prog aw180.f aw180.args aw180.r aw180.fr:=Zac (n:=100000) (l:=[aw179]) follows Zae ⟨ZAb,trivial⟩ (by kernel_rfl)
def aw181:Fact:=⟨106,[(.agg (.gen [(.int .i64 3),(.list (.gen [(.list (.ints .i64 [0,1])),(.list (.ints .i64 [1,2]))]))])),(.list (.ints .i64 [1,0,0]))],(.row 0 0),(some ⟨3,1,(.ints .i64 [0,0,0])⟩)⟩
theorem ZAX:Zaj Try.prog aw181.f aw181.args aw181.r aw181.fr:=Zac (n:=100000) (l:=[aw176,aw178,aw180,aw175]) follows Zae ⟨Zun,⟨Zzp,⟨ZAp,⟨Zuc,trivial⟩⟩⟩⟩ (by kernel_rfl)
def aw182:Fact:=⟨105,[(.agg (.gen [(.int .i64 3),(.list (.gen [(.list (.ints .i64 [0,1])),(.list (.ints .i64 [1,2]))]))])),(.list (.ints .i64 [0,0,0]))], .nils,none⟩
theorem ZBt:Zaj Try.prog aw182.f aw182.args aw182.r aw182.fr:=Zac (n:=100000) (l:=[]) follows Zae trivial (by kernel_rfl)
def aw183:Fact:=⟨61,[(.agg (.gen [(.int .i64 3),(.list (.gen [(.list (.ints .i64 [0,1])),(.list (.ints .i64 [1,2]))]))])),(.list (.ints .i64 [1,0,0])),(.int .i64 5)],(.tup [(.row 0 0),(.int .i64 1),(.int .i64 0)]),(some ⟨3,1,(.ints .i64 [0,0,0])⟩)⟩
theorem Zzd:Zaj Try.prog aw183.f aw183.args aw183.r aw183.fr:=Zac (n:=100000) (l:=[aw173,aw174,aw9,aw69,aw175,aw176,aw181,aw182]) follows Zae ⟨ZBx,⟨ZBM,⟨Zmf,⟨Zpy,⟨Zuc,⟨Zun,⟨ZAX,⟨ZBt,trivial⟩⟩⟩⟩⟩⟩⟩⟩ (by kernel_rfl)
def aw184:Fact:=⟨83,[(.list (.ints .i64 [100000])),(.int .i64 4)],(.row 0 0),(some ⟨3,1,(.ints .i64 [100000,100000,100000,100000])⟩)⟩
theorem Zzj:Zaj Try.prog aw184.f aw184.args aw184.r aw184.fr:=Zac (n:=100000) (l:=[aw26]) follows Zae ⟨Zxd,trivial⟩ (by kernel_rfl)
def aw185:Fact:=⟨81,[(.int .i64 0),(.int .i64 1),(.eptr (.agg (.gen [(.int .i64 2),(.int .i64 7),(.int .i64 5)])) 0)],(.tup [(.int .i64 2),(.int .i64 2)]),none⟩
theorem Zy4:Zaj Try.prog aw185.f aw185.args aw185.r aw185.fr:=Zac (n:=100000) (l:=[aw47]) follows Zae ⟨ZwN,trivial⟩ (by kernel_rfl)
def aw186:Fact:=⟨81,[(.int .i64 1),(.int .i64 0),(.eptr (.agg (.gen [(.int .i64 2),(.int .i64 7),(.int .i64 5)])) 0)],(.tup [(.int .i64 0),(.int .i64 2)]),none⟩
theorem ZAH:Zaj Try.prog aw186.f aw186.args aw186.r aw186.fr:=Zac (n:=100000) (l:=[aw35]) follows Zae ⟨Zyg,trivial⟩ (by kernel_rfl)
def aw187:Fact:=⟨81,[(.int .i64 1),(.int .i64 1),(.eptr (.agg (.gen [(.int .i64 2),(.int .i64 7),(.int .i64 5)])) 0)],(.tup [(.int .i64 2),(.int .i64 0)]),none⟩
theorem ZBc:Zaj Try.prog aw187.f aw187.args aw187.r aw187.fr:=Zac (n:=100000) (l:=[aw50]) follows Zae ⟨ZyC,trivial⟩ (by kernel_rfl)
def aw188:Fact:=⟨81,[(.int .i64 2),(.int .i64 0),(.eptr (.agg (.gen [(.int .i64 2),(.int .i64 7),(.int .i64 5)])) 0)],(.tup [(.int .i64 1),(.int .i64 1)]),none⟩
theorem ZAm:Zaj Try.prog aw188.f aw188.args aw188.r aw188.fr:=Zac (n:=100000) (l:=[aw39]) follows Zae ⟨Zx3,trivial⟩ (by kernel_rfl)
def aw189:Fact:=⟨81,[(.int .i64 2),(.int .i64 1),(.eptr (.agg (.gen [(.int .i64 2),(.int .i64 7),(.int .i64 5)])) 0)],(.tup [(.int .i64 3),(.int .i64 1)]),none⟩
theorem ZBX:Zaj Try.prog aw189.f aw189.args aw189.r aw189.fr:=Zac (n:=100000) (l:=[aw53]) follows Zae ⟨Zxz,trivial⟩ (by kernel_rfl)
def aw190:Fact:=⟨81,[(.int .i64 3),(.int .i64 0),(.eptr (.agg (.gen [(.int .i64 2),(.int .i64 7),(.int .i64 5)])) 0)],(.tup [(.int .i64 1),(.int .i64 1)]),none⟩
theorem ZA6:Zaj Try.prog aw190.f aw190.args aw190.r aw190.fr:=Zac (n:=100000) (l:=[aw42]) follows Zae ⟨Zxu,trivial⟩ (by kernel_rfl)
def aw191:Fact:=⟨81,[(.int .i64 3),(.int .i64 1),(.eptr (.agg (.gen [(.int .i64 2),(.int .i64 7),(.int .i64 5)])) 0)],(.tup [(.int .i64 3),(.int .i64 1)]),none⟩
theorem ZA7:Zaj Try.prog aw191.f aw191.args aw191.r aw191.fr:=Zac (n:=100000) (l:=[aw56]) follows Zae ⟨ZwY,trivial⟩ (by kernel_rfl)
def aw192:Fact:=⟨32,[(.agg (.gen [(.int .i64 2),(.int .i64 7),(.int .i64 5)]))],(.tup [(.int .i64 5),(.int .i64 0)]),none⟩
theorem ZBm:Zaj Try.prog aw192.f aw192.args aw192.r aw192.fr:=Zac (n:=100000) (l:=[aw11,aw184,aw185,aw186,aw187,aw188,aw189,aw190,aw191]) follows Zae ⟨ZxK,⟨Zzj,⟨Zy4,⟨ZAH,⟨ZBc,⟨ZAm,⟨ZBX,⟨ZA6,⟨ZA7,trivial⟩⟩⟩⟩⟩⟩⟩⟩⟩ (by kernel_rfl)
def aw193:Fact:=⟨17,[(.list (.ints .i64 [1,0])),(.list (.ints .i64 [1,0]))],(.bool true),none⟩
theorem ZAy:Zaj Try.prog aw193.f aw193.args aw193.r aw193.fr:=Zac (n:=100000) (l:=[]) follows Zae trivial (by kernel_rfl)
def aw194:Fact:=⟨17,[(.list (.ints .i64 [0,0,0])),(.list (.ints .i64 [0,0,0]))],(.bool true),none⟩
theorem ZAg:Zaj Try.prog aw194.f aw194.args aw194.r aw194.fr:=Zac (n:=100000) (l:=[]) follows Zae trivial (by kernel_rfl)
def aw195:Fact:=⟨12,[],(.bool true),none⟩
theorem ZAN:Zaj Try.prog aw195.f aw195.args aw195.r aw195.fr:=Zac (n:=100000) (l:=[aw0,aw1,aw58,aw59,aw61,aw70,aw69,aw156,aw157,aw183,aw192,aw193,aw194]) follows Zae ⟨ZOy,⟨ZOn,⟨ZFP,⟨ZFH,⟨ZFA,⟨ZHh,⟨Zpy,⟨Zy0,⟨ZAx,⟨Zzd,⟨ZBm,⟨ZAy,⟨ZAg,trivial⟩⟩⟩⟩⟩⟩⟩⟩⟩⟩⟩⟩⟩ (by kernel_rfl)
end Go.Proofs.Ytklbmkllepkjcaa
/- Contracts as a list. No condition. -/
namespace Go.Proofs.Ytklbmkllepkjcaa
def k12:Ctr:=⟨12,0,fun _ a=>match a with |[]=>some (true, .bool true,none) |_=>none⟩
theorem ZNN:k12.OK Try.prog:=fun pa args r fr h=>by
 simp only[k12]at h
 split at h
 ·cases h
  exact ZAN
 ·cases h
def J8:List Ctr:=[k12]++J7
theorem ZPP:Zay Try.prog J8:=⟨ZNN,ZQD⟩
end Go.Proofs.Ytklbmkllepkjcaa
/- Contracts as a list. No condition. -/
namespace Go.Proofs.Ytklbmkllepkjcaa
theorem ZIF{m p q:Int}(hv:Za8 m p q=0){s b:Int}(hs:0≤s∧s<stN m)(hb:b=0∨b=1):ZfL m p q s b=true∧0≤nxS m s b∧nxS m s b<stN m:=by
 have hm:=(Zaz hv).1
 obtain⟨r0,r1,r2,r3,r4⟩:=Zt0 (m:=m) (s:=s) (b:=b) hm hs hb
 exact⟨decide_eq_true ⟨hv,hs.1,hs.2,hb⟩,r2,r3⟩
def ZyT(m p q:Int):Int→List Int→List Int
 |_,[]=>[]
 |s,b::bs=>oS m p s b::oS m q s b::ZyT m p q (nxS m s b) bs
def ZqF(m p q:Int)(bs:List Int):List Int:=ZyT m p q 0 (bs++List.replicate m.toNat 0)
theorem ZsS(m p q:Int):∀(bs:List Int) (s:Int),(ZyT m p q s bs).length=2*bs.length
 |[],_=>rfl
 |b::bs,s=>by simp only[ZyT,List.length_cons,ZsS m p q bs];omega
theorem ZB3(m p q:Int)(bs:List Int):(ZqF m p q bs).length=2*(bs.length+m.toNat):=by
 unfold ZqF;rw[ZsS,List.length_append,List.length_replicate]
theorem Zg0{w:List Int}(h:ZbP w=true)(j:Nat):w.getD j 0=0∨w.getD j 0=1:=by
 by_cases hj:j<w.length
 ·exact of_decide_eq_true (List.all_eq_true.1 h _ (Zbq hj))
 ·rw[List.getD_eq_getElem?_getD,List.getElem?_eq_none (by omega)];exact .inl rfl
theorem ZgY{a b:List Int}(ha:ZbP a=true)(hb:ZbP b=true):ZbP (a++b)=true:=by
 unfold ZbP at *;rw[List.all_append,ha,hb];rfl
theorem Ztq(n:Nat):ZbP (List.replicate n 0)=true:=List.all_eq_true.2 fun x hx=>by rw[(List.mem_replicate.1 hx).2];rfl
section
variable {C:Ctx}(hC:C.P=Try.prog)
include hC
end
theorem ZcM{x:Int}{l:List Int}(h:ZaE (x::l)=0):x=0∧ZaE l=0:=by
 rw[ZaE]at h
 split at h
 ·exact⟨by assumption,h⟩
 ·contradiction
theorem ZxJ{m:Int}(hm:m=1∨m=2∨m=3):0<stN m:=by
 have:=ZjE (m:=m) (by omega);omega
section
variable (m p q:Int)
def wt(s b:Int):Int:=oS m p s b+oS m q s b
def rx(s:Nat)(b:Int)(x:Int×List Int):Int×List Int:=if nxS m s b=0 then(min x.1 (x.2.getD s 0+wt m p q s b),x.2)else(x.1,x.2.set (nxS m s b).toNat (min (x.2.getD (nxS m s b).toNat 0) (x.2.getD s 0+wt m p q s b)))
end
structure OkX (m:Int) (x:Int×List Int):Prop where
 b:0≤x.1∧x.1≤100000
 l:x.2.length=stS m
 r:∀j,0≤x.2.getD j 0∧x.2.getD j 0≤100000
section
variable {C:Ctx}(hC:C.P=Try.prog)(m p q:Int)(hv:Za8 m p q=0)
include hC hv
end
def J9:List Ctr:=J8
theorem ZPA:Zay Try.prog J9:=ZPP
end Go.Proofs.Ytklbmkllepkjcaa
/- Contracts as a list. No condition. -/
namespace Go.Proofs.Ytklbmkllepkjcaa
@[simp] theorem ZSS (l:List AV):std.lenA l=l.length:=rfl
@[simp] theorem Zw9 (l:List AV) (j:Nat):std.nthA l j=l.getD j .top:=rfl
def pR(ps:List AV)(t:Nat):List Int:=AV.toIs (ps.getD t .top)
section
variable (m p q:Int)(so:List Int)(ps:List AV)
end
structure OkP (m:Int) (so:List Int) (ps:List AV):Prop where
 n:ps.length=Zab so+1
 l:∀t,t≤Zab so→(pR ps t).length=stS m
 r:∀t j,t≤Zab so→ -1000000≤(pR ps t).getD j 0∧(pR ps t).getD j 0≤1000000
theorem Ztg{l:List Int}{a b:Int}(h:ZaM l a b=0)(h0:a≤0∧0≤b)(j:Nat):a≤l.getD j 0∧l.getD j 0≤b:=by
 unfold ZaM at h
 split at h
 ·rename_i hall
  by_cases hk:j<l.length
  ·have:=List.all_eq_true.1 hall _ (Zbq (d:=0) hk)
   simpa[Zao]using of_decide_eq_true this
  ·rw[List.getD_eq_getElem?_getD,List.getElem?_eq_none (by omega)];simpa using h0
 ·cases h
section
variable {C:Ctx}(hC:C.P=Try.prog)(m p q:Int)(so:List Int)(ps:List AV)(h:OkC m p q so)(hp:OkP m so ps)
include hC h hp
end
section
variable {C:Ctx}(hC:C.P=Try.prog)(m p q:Int)(so:List Int)(ps:List AV)(h:OkC m p q so)(hn:ps.length=Zab so+1)(hrl:∀t,(pR ps t).length≤1000000)
include hC h hn hrl
end
def rlB(ps:List AV):Prop:=∀t,(pR ps t).length≤1000000
section
variable {C:Ctx}(hC:C.P=Try.prog)(m p q:Int)(so:List Int)(ps:List AV)(h:OkC m p q so)(hp:OkP m so ps)
include hC h hp
end
theorem ZfY{l:List Int}{a b:Int}(h:∀j,j<l.length→Zao (l.getD j 0) a b=true):ZaM l a b=0:=by
 unfold ZaM
 rw[if_pos]
 refine List.all_eq_true.2 fun x hx=>?_
 obtain⟨j,hj,rfl⟩:=List.mem_iff_getElem.1 hx
 have:=h j hj
 rwa[List.getD_eq_getElem?_getD,List.getElem?_eq_getElem hj]at this
section
variable {C:Ctx}(hC:C.P=Try.prog)(m p q:Int)(so:List Int)(ps:List AV)(h:OkC m p q so)(hn:ps.length=Zab so+1)
include hC h hn
end
section
variable {C:Ctx}(hC:C.P=Try.prog)(ps:List AV)(hl:ps.length≤1000000)(hrl:rlB ps)
include hC hl hrl
end
def Ja:List Ctr:=J9
theorem ZSE:Zay Try.prog Ja:=ZPA
end Go.Proofs.Ytklbmkllepkjcaa
/- Contracts as a list. No condition. -/
namespace Go.Proofs.Ytklbmkllepkjcaa
def k14v:Ctr:=⟨14,0,fun _ a=>match a with |[.list (.ints .i64 xs)]=>some (decide (xs.length≤1000000), .list (.ints .i64 xs),Zst) |_=>none⟩
theorem ZFo:k14v.OK Try.prog:=fun pa args r fr h=>by
 simp only[k14v]at h
 split at h
 ·simp only[Option.some.injEq,Prod.mk.injEq,decide_eq_true_eq]at h
  obtain⟨h0,rfl,rfl⟩:=h
  exact ZFS (Zqw _ h0) rfl rfl
 ·cases h
def Jb:List Ctr:=[k14v]++Ja
theorem ZQn:Zay Try.prog Jb:=⟨ZFo,ZSE⟩
end Go.Proofs.Ytklbmkllepkjcaa
/- The field of 16 elements. No condition. -/
namespace Go.Proofs.Ytklbmkllepkjcaa
def xt(a:Nat):Nat:=if a<8 then 2*a else(2*a) ^^^ 19
def Zat(a b:Nat):Nat:=(if b%2=1 then a else 0) ^^^ (if b/2%2=1 then xt a else 0) ^^^ (if b/4%2=1 then xt (xt a)else 0) ^^^ (if b/8%2=1 then xt (xt (xt a))else 0)
def Zbm:Nat→Nat
 |0=>1
 |n+1=>Zat (Zbm n) 2
def Zhk(a:Nat):Nat:=((List.range 16).find? fun b=>Zat a b==1).getD 0
def ZyP(p:Nat→Nat→Bool):Bool:=(List.range 16).all fun a=>(List.range 16).all fun b=>p a b
theorem Zdg{p:Nat→Nat→Bool}(h:ZyP p=true){a b:Nat}(ha:a<16)(hb:b<16):p a b=true:=
 List.all_eq_true.1 (List.all_eq_true.1 h a (List.mem_range.2 ha)) b (List.mem_range.2 hb)
def ZPV(p:Nat→Nat→Nat→Bool):Bool:=(List.range 16).all fun a=>(List.range 16).all fun b=>(List.range 16).all fun c=>p a b c
theorem Zyy{p:Nat→Nat→Nat→Bool}(h:ZPV p=true){a b c:Nat}(ha:a<16)(hb:b<16)(hc:c<16):p a b c=true:=
 List.all_eq_true.1 (List.all_eq_true.1 (List.all_eq_true.1 h a (List.mem_range.2 ha)) b (List.mem_range.2 hb)) c (List.mem_range.2 hc)
theorem Zbx{a b:Nat}(ha:a<16)(hb:b<16):Zat a b<16:=by
 have h:ZyP (fun a b=>decide (Zat a b<16))=true:=by kernel_rfl
 exact of_decide_eq_true (Zdg h ha hb)
theorem Zbe{a b:Nat}(ha:a<16)(hb:b<16):Zat a b=Zat b a:=by
 have h:ZyP (fun a b=>decide (Zat a b=Zat b a))=true:=by kernel_rfl
 exact of_decide_eq_true (Zdg h ha hb)
theorem ZaO{a b c:Nat}(ha:a<16)(hb:b<16)(hc:c<16):Zat (Zat a b) c=Zat a (Zat b c):=by
 have h:ZPV (fun a b c=>decide (Zat (Zat a b) c=Zat a (Zat b c)))=true:=by kernel_rfl
 exact of_decide_eq_true (Zyy h ha hb hc)
theorem Zdf{a b c:Nat}(ha:a<16)(hb:b<16)(hc:c<16):Zat (a ^^^ b) c=Zat a c ^^^ Zat b c:=by
 have h:ZPV (fun a b c=>decide (Zat (a ^^^ b) c=Zat a c ^^^ Zat b c))=true:=by kernel_rfl
 exact of_decide_eq_true (Zyy h ha hb hc)
theorem ZbU{a:Nat}(ha:a<16):Zat a 0=0:=by
 have h:ZyP (fun a _=>decide (Zat a 0=0))=true:=by kernel_rfl
 exact of_decide_eq_true (Zdg h ha (b:=0) (by omega))
theorem Zkb{a:Nat}(ha:a<16):Zat a 1=a:=by
 have h:ZyP (fun a _=>decide (Zat a 1=a))=true:=by kernel_rfl
 exact of_decide_eq_true (Zdg h ha (b:=0) (by omega))
theorem ZbT{a b:Nat}(ha:a<16)(hb:b<16)(h0:Zat a b=0):a=0∨b=0:=by
 have h:ZyP (fun a b=>decide (Zat a b=0→a=0∨b=0))=true:=by kernel_rfl
 exact of_decide_eq_true (Zdg h ha hb) h0
theorem ZzE{a:Nat}(ha:a<16)(h0:a≠0):Zhk a<16∧Zat a (Zhk a)=1:=by
 have h:ZyP (fun a _=>decide (a≠0→Zhk a<16∧Zat a (Zhk a)=1))=true:=by kernel_rfl
 exact of_decide_eq_true (Zdg h ha (b:=0) (by omega)) h0
theorem Zcc{a b:Nat}(ha:a<16)(hb:b<16):a ^^^ b<16:=Nat.xor_lt_two_pow (n:=4) ha hb
theorem ZbO:∀n,Zbm n<16
 |0=>by decide
 |n+1=>Zbx (ZbO n) (by decide)
theorem ZQ5:Zbm 15=1:=by decide
theorem ZyI:∀m n,Zbm (m+n)=Zat (Zbm m) (Zbm n)
 |m,0=>(Zkb (ZbO m)).symm
 |m,n+1=>by rw[←Nat.add_assoc,Zbm,ZyI m n,Zbm,ZaO (ZbO m) (ZbO n) (by decide)]
theorem Ztz(n:Nat):Zbm n=Zbm (n%15):=by
 have h:∀q r,Zbm (15*q+r)=Zbm r:=by
  intro q
  induction q with
  |zero=>intro r;rw[Nat.mul_zero,Nat.zero_add]
  |succ q ih=>
   intro r
   rw[show 15*(q+1)+r=15*q+(15+r) by omega,ih,ZyI,ZQ5,Zbe (by decide) (ZbO r),Zkb (ZbO r)]
 conv=>lhs;rw[←Nat.div_add_mod n 15]
 exact h _ _
theorem Zu3(n:Nat):Zbm n≠0:=by
 have h:∀r,r<15→Zbm r≠0:=by decide
 rw[Ztz];exact h _ (Nat.mod_lt _ (by decide))
theorem Zte{i j:Nat}(hi:i<15)(hj:j<15)(h:Zbm i=Zbm j):i=j:=by
 have k:∀i,i<15→∀j,j<15→Zbm i=Zbm j→i=j:=by decide
 exact k i hi j hj h
def gM(a b:Int):Int:=((Zat a.toNat b.toNat:Nat):Int)
def gI(a:Int):Int:=((Zhk a.toNat:Nat):Int)
def elB(a:Int):Bool:=decide (0≤a∧a≤15)
end Go.Proofs.Ytklbmkllepkjcaa
