/- The law TopCodeFrames: what is sent is decoded. No condition. -/
import Derived.Test.YtjhldefnjghcdaaGreatNc
namespace Go.Proofs.YtjhldefnjghcdaaGreat
set_option maxRecDepth 20000
theorem ZzC{mk so:zI}{L:Nat} :∀(k a i:Nat),i<k→(frS mk so L k a).getD i .top=frA mk so L (a+i)
 |0,_,_,h=>absurd h (by omega)
 |k+1,a,0,_=>rfl
 |k+1,a,i+1,h=>by
  rw[frS,List.getD_cons_succ,ZzC k (a+1) i (by omega),show a+1+i=a+(i+1) by omega]
theorem ZAm{mk so:zI}{L:Nat} :∀(k a:Nat),(frS mk so L k a).length=k
 |0,_=>rfl
 |k+1,a=>by rw[frS,List.length_cons,ZAm k]
section
variable {C:Ctx}(hC:C.P=Tryz.prog)(m p q h:Int)(mk:zI)(L S:Nat)(er ve fy g t s:Int)(ds:List AV)(op:zI)
 (h1:lkE m p q h 1=0) (hru:ruE mk L er ve fy S=0) (hrd:rdE g t s=0) (hds:ds.length≤3) (hop:op.length≤20) (hL:L=mk.length+(cnI m 1).toNat) (v:∀d∈ds,VD h 1 d)
include hC h1 hrd hL v hds
theorem T0(tl so:zI)(hso:so=ngL op 0 (stL m p q h 1 g t s mk ds++tl))(X:List AV)(hX:X.length=ds.length)(hg:∀i,i<ds.length→X.getD i .top=frA mk so L i):
 ∀(x i:Nat),i+x=ds.length→Ev C (Zqn m p q h 1 mk L er ve fy S g t s ds op (cnI m 1) (cnL op mk.length (cnI m 1).toNat ds.length so.length) (frI m p q) X i) (Zn1 m p q h 1 mk L er ve fy S g t s ds op (cnI m 1) (cnL op mk.length (cnI m 1).toNat ds.length so.length) (frI m p q) X i) (ZaD 3 (.bool true) none):=by
 have hn:so.length=ds.length*L+tl.length:=by
  rw[hso,Zkq,List.length_append,Znq g t s h1 v,hL]
 intro x
 induction x with
 |zero=>
  intro i hi
  refine tgo hC ZnS Zsk ?_
  simp[Zfv,hX,show ¬(i:Int)<(ds.length:Int) by omega]
 |succ x ih=>
  intro i hi
  have next:=ih (i+1) (by omega)
  have hil:i<ds.length:=by omega
  have hsf:=ZyY (m:=m) (p:=p) (q:=q) g t s (mk:=mk) h1 tl v hil
  have w:VD h 1 (ds.getD i .top):=by
   rw[List.getD_eq_getElem?_getD,List.getElem?_eq_getElem hil]
   exact v _ (List.getElem_mem hil)
  obtain⟨_,e2,e3,e4⟩:=Zpz (m:=m) (p:=p) (q:=q) h1 w.1 w.2
  obtain⟨d1,d2⟩:=ZGW (m:=m) (p:=p) (q:=q) h1 w.1 w.2 (shL op (i*L+mk.length))
  have hdl:=ZHw h1 w.1
  have hct:=ZKZ op (i*L+mk.length) (snV m p q h 1 (ds.getD i .top).toIs) 0
  have hsoft:(so.drop (i*L+mk.length)).take (L-mk.length)=ngL op (i*L+mk.length) (flL g t s ((snV m p q h 1 (ds.getD i .top).toIs).map fun x=>1-2*x)):=by
   rw[hso,Zwo,Zva,show L-mk.length=(cnI m 1).toNat by omega,←hsf,←hL,Nat.zero_add]
  have hfl:flL g t s (ngL op (i*L+mk.length) (flL g t s ((snV m p q h 1 (ds.getD i .top).toIs).map fun x=>1-2*x)))=spL (shL op (i*L+mk.length)) 1 0 (snV m p q h 1 (ds.getD i .top).toIs):=by
   rw[ZHp]
   exact ZGZ op (i*L+mk.length) _ 0
  have p1:P1 (ngL op (i*L+mk.length) (flL g t s ((snV m p q h 1 (ds.getD i .top).toIs).map fun x=>1-2*x))):=ZyM op _ (Zzk g t s (ZgK e3))
  have hlen:(ngL op (i*L+mk.length) (flL g t s ((snV m p q h 1 (ds.getD i .top).toIs).map fun x=>1-2*x))).length=(snV m p q h 1 (ds.getD i .top).toIs).length:=by rw[Zkq,ZpB,List.length_map]
  have hsl:=Zkr (shL op (i*L+mk.length)) 1 (snV m p q h 1 (ds.getD i .top).toIs) 0
  have hsfF:=Zyk p1 (by
   have:=(Zan (ZfY h1).1).1
   rw[ZlL]at e2
   omega)
  have hcell:AV.toIs (AV.cellAt (X.getD i .top) 3)=ngL op (i*L+mk.length) (flL g t s ((snV m p q h 1 (ds.getD i .top).toIs).map fun x=>1-2*x)):=by
   rw[hg i hil,←hsoft];rfl
  have l3:(i+1)*L≤ds.length*L:=Nat.mul_le_mul_right L (by omega)
  have l4:(i+1)*L=i*L+L:=Nat.succ_mul i L
  have hcn:(cnL op mk.length (cnI m 1).toNat ds.length so.length).getD i 0=spN (shL op (i*L+mk.length)) 0 (snV m p q h 1 (ds.getD i .top).toIs):=by
   rw[Zin _ hil,←hL,hct,Nat.add_zero]
   rw[show min (so.length-(i*L+mk.length)) (cnI m 1).toNat=(snV m p q h 1 (ds.getD i .top).toIs).length by omega]
  have hsn:=Zwy (shL op (i*L+mk.length)) (snV m p q h 1 (ds.getD i .top).toIs) 0
  have hcl:(cnL op mk.length (cnI m 1).toNat ds.length so.length).length=ds.length:=ZnF ..
  generalize cnL op mk.length (cnI m 1).toNat ds.length so.length=l6 at*
  generalize ngL op (i*L+mk.length) (flL g t s ((snV m p q h 1 (ds.getD i .top).toIs).map fun x=>1-2*x))=sf at*
  generalize spL (shL op (i*L+mk.length)) 1 0 (snV m p q h 1 (ds.getD i .top).toIs)=sp at*
  generalize spN (shL op (i*L+mk.length)) 0 (snV m p q h 1 (ds.getD i .top).toIs)=nn at*
  refine tgo hC ZnS Zsk ?_
  have hil2:(i:Int)<(ds.length:Int):=by omega
  by_cases hd:2*nn<frI m p q
  ·obtain⟨r1,r2⟩:=d2 hd
   simp[-List.getD_eq_getElem?_getD,Zfv,hX,hil,hil2,hcell,hrd,hsfF,hfl,hcn,hcl,hd,r1,r2,hsl,e2,hlen,hdl]at next⊢
   exact⟨by omega,by omega,by omega,next⟩
  ·rcases d1 with r1 |r1
   ·simp[-List.getD_eq_getElem?_getD,Zfv,hX,hil,hil2,hcell,hrd,hsfF,hfl,hcn,hcl,hd,r1,hsl,e2,hlen]at next⊢
    exact⟨by omega,by omega,by omega,next⟩
   ·simp[-List.getD_eq_getElem?_getD,Zfv,hX,hil,hil2,hcell,hrd,hsfF,hfl,hcn,hcl,hd,r1,hsl,e2,hlen]at next⊢
    exact⟨by omega,by omega,by omega,next⟩
include hru
theorem T1(tl so:zI)(hso:so=ngL op 0 (stL m p q h 1 g t s mk ds++tl))(htl:tl.length=mk.length+S)(hs6:so.length≤600)(hsf:sfF so=0)(hX:(fnM mk er so).length=ds.length+1):
 ∀(x j:Nat),j+x=ds.length+1→(∀i,i<j→wA so (i*L) mk≤er)→Ev C (ZqO m p q h 1 mk L er ve fy S g t s ds op (cnI m 1) so (cnL op mk.length (cnI m 1).toNat ds.length so.length) (fnM mk er so) j) (ZoJ m p q h 1 mk L er ve fy S g t s ds op (cnI m 1) so (cnL op mk.length (cnI m 1).toNat ds.length so.length) (fnM mk er so) j) (ZaD 3 (.bool true) none):=by
 have hn:so.length=ds.length*L+(mk.length+S):=by
  rw[hso,Zkq,List.length_append,Znq g t s h1 v,hL,htl]
 obtain⟨r0,r1,_,_,_,_,_,r7⟩:=Zqk hru
 obtain⟨k1,k2,k3⟩:=ZiD r0
 have r1:=of_decide_eq_true r1
 have hv:=(ZfY h1).1
 intro x
 induction x with
 |zero=>
  intro j hj hw
  have hCn:frC mk L S so=ds.length:=by
   unfold frC
   rw[show (so.length:Int)-mk.length-S=((ds.length*L:Nat):Int) by omega]
   show(((ds.length*L:Nat):Int)/(L:Int)).toNat=_
   rw[←Int.natCast_ediv,Nat.mul_div_cancel _ (by omega),Int.toNat_natCast]
  have hG:frG mk L er ve fy S so=true:=by
   unfold frG
   simp only[Bool.and_eq_true,decide_eq_true_eq,List.all_eq_true,List.mem_range]
   rw[hCn]
   refine⟨hru,hsf,?_,fun i hi=>?_⟩
   ·rw[hn];push_cast;omega
   ·rw[Int.toNat_natCast];exact hw i (by omega)
  have hf:frL mk L S so=frS mk so L ds.length 0:=by unfold frL;rw[hCn,Int.toNat_natCast]
  have hfl:(frL mk L S so).length=ds.length:=by rw[hf,ZAm]
  have i0:=T0 hC m p q h mk L S er ve fy g t s ds op h1 hrd hds hL v tl so hso (frL mk L S so) hfl (fun i hi=>by rw[hf,ZzC _ _ _ hi,Nat.zero_add]) ds.length 0 (by omega)
  refine tgo hC ZnS ZsF ?_
  simp[-List.getD_eq_getElem?_getD,Zf1,hX,hG,hfl,hv,show ¬(j:Int)<(ds.length:Int)+1 by omega]at i0⊢
  exact⟨⟨by omega,by omega⟩,i0⟩
 |succ x ih=>
  intro j hj hw
  have hm:(fnM mk er so).getD j .top∈fnM mk er so:=by
   rw[List.getD_eq_getElem?_getD,List.getElem?_eq_getElem (by omega)]
   exact List.getElem_mem _
  have hfe:fnM mk er so=fnL mk er so (so.length+1-mk.length) 0:=by unfold fnM;rfl
  obtain⟨a,iv,w,e,_,_,hw2⟩:=ZAn mk er so _ _ _ (hfe▸hm)
  have l3:(j+1)*L≤(ds.length+1)*L:=Nat.mul_le_mul_right L (by omega)
  have l4:(j+1)*L=j*L+L:=Nat.succ_mul j L
  have l5:(ds.length+1)*L=ds.length*L+L:=Nat.succ_mul _ L
  have c0:(j:Int)*(L:Int)=((j*L:Nat):Int):=by push_cast;rfl
  have b0:0≤(j:Int)*(L:Int)∧(j:Int)*(L:Int)≤1000:=by rw[c0];omega
  have next:=ih (j+1) (by omega)
  have hjl:(j:Int)<(ds.length:Int)+1:=by omega
  have hjn:j<ds.length+1:=by omega
  rw[←hfe]at e
  unfold mkA at e
  refine tgo hC ZnS ZsF ?_
  by_cases ha:(a:Int)=(j:Int)*(L:Int)
  ·have ha2:a=j*L:=by omega
   cases iv
   ·have next:=next (fun i hi=>by
     by_cases q:i=j
     ·rw[q,←ha2];exact hw2 rfl
     ·exact hw i (by omega))
    simp[-List.getD_eq_getElem?_getD,List.getD_cons_zero,List.getD_cons_succ,Zf1,hX,hjl,hjn,e,ZiZ,Zoj,Zi2,ha]at next⊢
    exact⟨by omega,by omega,next⟩
   ·simp[-List.getD_eq_getElem?_getD,List.getD_cons_zero,List.getD_cons_succ,Zf1,hX,hjl,hjn,e,ZiZ,Zoj,Zi2,ha]
    omega
  ·simp[-List.getD_eq_getElem?_getD,List.getD_cons_zero,List.getD_cons_succ,Zf1,hX,hjl,hjn,e,ZiZ,Zoj,Zi2,ha]
   omega
include hop
theorem T2(tl T:zI)(hT:T=stL m p q h 1 g t s mk ds++tl)(htl:tl.length=mk.length+S)(hp:P1 T):
 ∀(x i:Nat),i+x=T.length→Ev C (ZqF m p q h 1 mk L er ve fy S g t s ds op (cnI m 1) (twL op T i) i (cnL op mk.length (cnI m 1).toNat ds.length i)) (ZoD m p q h 1 mk L er ve fy S g t s ds op (cnI m 1) (twL op T i) i (cnL op mk.length (cnI m 1).toNat ds.length i)) (ZaD 3 (.bool true) none):=by
 have hn:T.length=ds.length*L+(mk.length+S):=by
  rw[hT,List.length_append,Znq g t s h1 v,hL,htl]
 obtain⟨r0,r1,_,_,_,r5,_,r7⟩:=Zqk hru
 obtain⟨k1,k2,k3⟩:=ZiD r0
 have r1:=of_decide_eq_true r1
 have r5:=of_decide_eq_true r5
 have hv:=(ZfY h1).1
 have hm:=(Zan hv).1
 have hcn:122≤cnI m 1∧cnI m 1≤126:=by rw[ZlL];omega
 have hNL:ds.length*L≤3*158:=Nat.mul_le_mul hds (by omega)
 intro x
 induction x with
 |zero=>
  intro i hi
  have:i=T.length:=by omega
  subst this
  rw[ZKz]
  have hsl:(ngL op 0 T).length=T.length:=Zkq ..
  have hsf:=Zyk (ZyM op 0 hp) (by omega)
  refine tgo hC ZnS Zsv ?_
  by_cases hX:(fnM mk er (ngL op 0 T)).length=ds.length+1
  ·have i0:=T1 hC m p q h mk L S er ve fy g t s ds op h1 hru hrd hds hL v tl (ngL op 0 T) (by rw[hT]) htl (by omega) hsf hX (ds.length+1) 0 (by omega) (fun i hi=>absurd hi (by omega))
   rw[hsl]at i0
   simp[-List.getD_eq_getElem?_getD,Zdj,hX,hsl,hru,hsf]at i0⊢
   exact⟨by omega,by omega,i0⟩
  ·simp[-List.getD_eq_getElem?_getD,Zdj,show ¬((fnM mk er (ngL op 0 T)).length:Int)=(ds.length:Int)+1 by omega,hsl,hru,hsf]
   omega
 |succ x ih=>
  intro i hi
  have hil:i<T.length:=by omega
  have hil2:(i:Int)<(T.length:Int):=by omega
  have next:=ih (i+1) (by omega)
  rw[ZDm hil]at next
  have hl4:(twL op T i).length=T.length:=ZFO ..
  have hg:=ZHh (ZNq hp op i) i
  have hM:0<mk.length+(cnI m 1).toNat:=by omega
  have hcs:=fun q=>ZBt (op:=op) (M:=mk.length) (C:=(cnI m 1).toNat) (N:=ds.length) (i:=i) hM q
  have hct:=fun a b c=>ZDz (op:=op) (M:=mk.length) (C:=(cnI m 1).toNat) (N:=ds.length) (i:=i) hM a b c
  have hcl:(cnL op mk.length (cnI m 1).toNat ds.length i).length=ds.length:=ZnF ..
  have hcg:∀j,j<ds.length→0≤(cnL op mk.length (cnI m 1).toNat ds.length i).getD j 0∧(cnL op mk.length (cnI m 1).toNat ds.length i).getD j 0≤126:=fun j hj=>by
   rw[Zin _ hj]
   have:=ZIO op (min (i-(j*(mk.length+(cnI m 1).toNat)+mk.length)) (cnI m 1).toNat) (j*(mk.length+(cnI m 1).toNat)+mk.length)
   omega
  have q1:Int.tdiv (i:Int) (L:Int)=((i/L:Nat):Int):=rfl
  have q2:Int.tmod (i:Int) (L:Int)=((i%L:Nat):Int):=rfl
  have q3:i/L≤600:=Nat.le_trans (Nat.div_le_self ..) (by omega)
  rw[←hL]at hcs hct
  generalize twL op T i=l4 at*
  generalize cnL op mk.length (cnI m 1).toNat ds.length i=l6 at*
  generalize i/L=Q at*
  generalize i%L=R at*
  refine tgo hC ZnS Zsv ?_
  have hL0:¬(L:Int)=0:=by omega
  have hL1:¬L=0:=by omega
  by_cases ho:(i:Int)∈op
  ·rw[if_pos ho]at next
   by_cases hq:Q<ds.length
   ·have hcgQ:=hcg Q hq
    by_cases hr:mk.length≤R
    ·rw[hct ho hq hr]at next
     simp[-List.getD_eq_getElem?_getD,Zdj,hil,hil2,hl4,hcl,q1,q2,hL1,ho,hq,hr]at next⊢
     exact⟨by omega,by omega,⟨by omega,by omega,by omega⟩,next⟩
    ·rw[hcs (fun q=>hr q.2.2)]at next
     simp[-List.getD_eq_getElem?_getD,Zdj,hil,hil2,hl4,hcl,q1,q2,hL1,ho,hq,hr]at next⊢
     exact⟨by omega,by omega,by omega,next⟩
   ·rw[hcs (fun q=>hq q.2.1)]at next
    simp[-List.getD_eq_getElem?_getD,Zdj,hil,hil2,hl4,hcl,q1,q2,hL1,ho,hq]at next⊢
    exact⟨by omega,by omega,by omega,next⟩
  ·rw[if_neg ho,hcs (fun q=>ho q.1)]at next
   simp[-List.getD_eq_getElem?_getD,Zdj,hil,hil2,hl4,ho]at next⊢
   exact⟨by omega,by omega,next⟩
end
section
variable {C:Ctx}(hC:C.P=Tryz.prog)(m p q h:Int)(mk:zI)(L S:Nat)(er ve fy g t s:Int)(ds:List AV)(op:zI)
 (h1:lkE m p q h 1=0) (hru:ruE mk L er ve fy S=0) (hrd:rdE g t s=0) (hds:ds.length≤3) (hop:op.length≤20) (hL:L=mk.length+(cnI m 1).toNat)
include hC h1 hru hrd hds hop hL
theorem T3:∀(x i:Nat),i+x=ds.length→(∀d∈ds.take i,VD h 1 d)→Ev C (ZrH m p q h 1 mk L er ve fy S g t s ds op i (stL m p q h 1 g t s mk (ds.take i)) (List.replicate i 0) (cnI m 1)) (ZoK m p q h 1 mk L er ve fy S g t s ds op i (stL m p q h 1 g t s mk (ds.take i)) (List.replicate i 0) (cnI m 1)) (ZaD 3 (.bool true) none):=by
 obtain⟨r0,r1,_,_,_,r5,_,r7⟩:=Zqk hru
 obtain⟨k1,k2,k3⟩:=ZiD r0
 have r1:=of_decide_eq_true r1
 have r5:=of_decide_eq_true r5
 have hv:=(ZfY h1).1
 have hm:=(Zan hv).1
 have hcn:122≤cnI m 1∧cnI m 1≤126:=by rw[ZlL];omega
 have hb:=Zrl k3
 intro x
 induction x with
 |zero=>
  intro i hi hw
  have:i=ds.length:=by omega
  subst this
  rw[List.take_length]at hw⊢
  have hsl:=Znq (m:=m) (p:=p) (q:=q) g t s (mk:=mk) h1 hw
  have hNL:ds.length*(mk.length+(cnI m 1).toNat)≤3*158:=Nat.mul_le_mul hds (by omega)
  have hp:P1 (stL m p q h 1 g t s mk ds++((mk.map fun x=>1-2*x)++List.replicate S 0)):=Zpk (ZH5 g t s h1 hb hw) (Zpk (ZgK hb) (ZFJ S))
  have i0:=T2 hC m p q h mk L S er ve fy g t s ds op h1 hru hrd hds hop hL hw ((mk.map fun x=>1-2*x)++List.replicate S 0) _ rfl (by simp) hp _ 0 (Nat.zero_add _)
  rw[ZAP,ZCc,←List.append_assoc]at i0
  refine tgo hC ZnS ZsG ?_
  simp[-List.getD_eq_getElem?_getD, -List.append_assoc,ZfO,hb,hsl]at i0⊢
  first |exact⟨by omega,i0⟩ |exact⟨by omega,by omega,i0⟩
 |succ x ih=>
  intro i hi hw
  have hil:i<ds.length:=by omega
  have hil2:(i:Int)<(ds.length:Int):=by omega
  refine tgo hC ZnS ZsG ?_
  by_cases e1:((ds.getD i .top).toIs.length:Int)=daI h 1
  ·have hdl:=ZHw h1 e1
   by_cases e2:ZaF (ds.getD i .top).toIs 0 15=0
   ·have ht:ds.take (i+1)=ds.take i++[ds.getD i .top]:=by
     rw[List.take_succ_eq_append_getElem hil,List.getD_eq_getElem?_getD,List.getElem?_eq_getElem hil];rfl
    have next:=ih (i+1) (by omega) (fun d hd=>by
     rw[ht]at hd
     rcases List.mem_append.1 hd with q |q
     ·exact hw d q
     ·rw[List.mem_singleton.1 q];exact⟨e1,e2⟩)
    obtain⟨c1,c2,c3,c4⟩:=Zpz (m:=m) (p:=p) (q:=q) h1 e1 e2
    have hsl:=Znq (m:=m) (p:=p) (q:=q) g t s (mk:=mk) h1 hw
    rw[List.length_take,Nat.min_eq_left (by omega)]at hsl
    have hNL:i*(mk.length+(cnI m 1).toNat)≤3*158:=Nat.mul_le_mul (by omega) (by omega)
    have hlf:(flL g t s ((snV m p q h 1 (ds.getD i .top).toIs).map fun x=>1-2*x)).length=(snV m p q h 1 (ds.getD i .top).toIs).length:=by rw[ZpB,List.length_map]
    have hsf:=Zyk (Zzk g t s (ZgK c3)) (by omega)
    have hsf0:=Zyk (ZgK c3) (by rw[List.length_map];omega)
    rw[ht,ZAt,bkL,←List.append_assoc,List.replicate_succ']at next
    generalize stL m p q h 1 g t s mk (ds.take i)=l1 at*
    simp[-List.getD_eq_getElem?_getD, -List.append_assoc,ZfO,hil,hil2,e1,e2,hdl,c1,c2,c3,hrd,hsf,hsf0,hlf,hb,hsl,AV.bx,Zad]at next⊢
    exact⟨h1,decide_eq_true (by omega),by omega,⟨⟨by omega,by omega⟩,by omega,by omega,by omega,by omega⟩,next⟩
   ·simp[-List.getD_eq_getElem?_getD,ZfO,hil,hil2,e1,e2,hdl,h1]
  ·simp[-List.getD_eq_getElem?_getD,ZfO,hil,hil2,e1,h1]
end
theorem ZtJ(m p q h D:Int)(mk:zI)(le er ve fy sl g t s:Int)(ds:List AV)(op:zI):ZaK Tryz.prog 3 [.agg (.gen [.int .i64 m, .int .i64 p, .int .i64 q, .int .i64 h, .int .i64 D]), .agg (.gen [.list (.ints .i64 mk), .int .i64 le, .int .i64 er, .int .i64 ve, .int .i64 fy, .int .i64 sl, .int .i64 g, .int .i64 t, .int .i64 s, .list (.big (.ints .i64) ds), .list (.ints .i64 op)])] (.bool true) none:=by
 refine start (ZGd m p q h D mk le er ve fy sl g t s ds op) fun C hC=>tgo hC ZnS ZQi ?_
 by_cases h1:lkE m p q h D=0
 ·by_cases h2:D=1
  ·subst h2
   by_cases h3:ruE mk le er ve fy sl=0
   ·by_cases h4:rdE g t s=0
    ·by_cases h5:(3:Int)<ds.length
     ·simp[ZyE,h1,h3,h4,h5]
     ·by_cases h6:(20:Int)<op.length
      ·simp[ZyE,h1,h3,h4,h5,h6]
      ·obtain⟨r0,r1,_,_,_,r5,_,r7⟩:=Zqk h3
       obtain⟨k1,k2,k3⟩:=ZiD r0
       have r1:=of_decide_eq_true r1
       have r5:=of_decide_eq_true r5
       have hm:=(Zan (ZfY h1).1).1
       have hcn:122≤cnI m 1∧cnI m 1≤126:=by rw[ZlL];omega
       by_cases h7:le=mk.length+cnI m 1
       ·obtain⟨L,rfl⟩:=Int.eq_ofNat_of_zero_le (show 0≤le by omega)
        obtain⟨S,rfl⟩:=Int.eq_ofNat_of_zero_le (show 0≤sl by omega)
        have i0:=T3 hC m p q h mk L S er ve fy g t s ds op h1 h3 h4 (by omega) (by omega) (by omega) ds.length 0 (by omega) (fun d hd=>by simp at hd)
        rw[List.take_zero,stL,List.replicate_zero]at i0
        simp[ZyE,h1,h3,h4,h5,h6,eq_true h7]at i0⊢
        exact⟨by omega,i0⟩
       ·simp[ZyE,h1,h3,h4,h5,h6,h7]
        omega
    ·simp[ZyE,h1,h3,h4]
   ·simp[ZyE,h1,h3]
  ·simp[ZyE,h1,h2]
 ·simp[ZyE,h1]
end Go.Proofs.YtjhldefnjghcdaaGreat
namespace Go.Proofs.YtjhldefnjghcdaaGreat
open Go.ChangeShapes Go.WideShapes Go.ChangeAt Go.RowKit
theorem sh3_0:ZDp Tryz.prog 8 26=some [.int .i64, .int .i64, .int .i64, .int .i64, .int .i64]:=by kernel_rfl
theorem sh3_1:ZDp Tryz.prog 8 34=some [.ints .i64, .int .i64, .int .i64, .int .i64, .int .i64, .int .i64, .int .i64, .int .i64, .int .i64, .big (.ints .i64), .ints .i64]:=by kernel_rfl
set_option maxRecDepth 100000 in
theorem law3(os:Os)(started:os.Started)(H:Type)(enc:TypeId×Value→H):
 ReturnsInHanded {} Tryz.checked os 3 .any (Rows.topCodeFramesSpec.pre6 enc Tryz.prog Tryz.f3 Rows.topCodeFramesRow.domain false) (Rows.topCodeFramesSpec.post enc Tryz.prog Tryz.f3 false true false false):=by
 refine returnsInHanded_of_change (C:=Tryz.checked) own started (by kernel_rfl) Tryz.func3
  (ChangeSpec.witness6 (enc:=enc) (C:=Tryz.checked) false ⟨#[], #[.agg #[.int .i64 0, .int .i64 0, .int .i64 0, .int .i64 0, .int .i64 0], .agg #[.slice none 0 0, .int .i64 0, .int .i64 0, .int .i64 0, .int .i64 0, .int .i64 0, .int .i64 0, .int .i64 0, .int .i64 0, .slice none 0 0, .slice none 0 0]],[]⟩ 8 (by kernel_rfl) (by kernel_rfl) (by kernel_rfl) (by kernel_rfl)) ?_
 intro W base args ds gs before hval0 hW _ _
 have hval:∀(j:Nat) t v,Tryz.f3.params[j]? =some t→args[j]? =some v→Value.okWide Tryz.prog W .any base t v:=hval0
 have hW':=hW
 obtain⟨p,q,hA0,hV,rfl,_,_⟩:=hW
 have hA:DataW.TrodAll enc Tryz.prog W 0 (fun _=>true) true Tryz.f3.params.toList args.toList ds p:=hA0
 rw[Tryz.params3]at hA hval
 obtain⟨v0,v1,d0,d1,p0,p1,rfl,rfl,rfl,h0,h1⟩:=trodAll_two hA
 obtain⟨rfl,rfl⟩:=trodVars_none hV
 have hlt:∀x∈p0++p1,x.block<W.heap.size:=fun x hx=>by simpa using hW'.lt x (by simpa using hx)
 obtain⟨us0,r0,c0⟩:=ZzF (L:=⟨fun _ _=>0,fun _ _=>0⟩) sh3_0 (okWide_struct Tryz.underlying26 (hval 0 26 v0 rfl rfl)) h0
 obtain⟨m,g0,g1,hf,dp,rfl⟩:=ZBP c0
 obtain⟨us1,r1,c1⟩:=ZzF (L:=⟨fun _ _=>0,fun _ _=>0⟩) sh3_1 (okWide_struct Tryz.underlying34 (hval 1 34 v1 rfl rfl)) h1
 obtain⟨mk,le,er,ve,fy,sl,gg,tt,sd,xs,op,rfl⟩:=ZrG c1
 refine(Zzh trivial (ZtJ m g0 g1 hf dp mk le er ve fy sl gg tt sd xs op) (RelL.cons ( r0) (RelL.cons ( r1) RelL.nil))).mono fun e W' ⟨he,hb⟩=>?_
 subst he
 refine⟨_,rfl,_,_,_,[],p0++p1,[],hW',trodAll_mk1 (shut_bool Tryz.underlying4 true),?_,rfl,hb.frame _,fun h=>by cases h⟩
 exact trodAll_mk2 (Below.trod ZvY (by kernel_rfl) (of_decide_eq_true (by kernel_rfl)) h0 hb (fun x hx=>hlt x (List.mem_append_left _ hx))) (Below.trod ZvY (by kernel_rfl) (of_decide_eq_true (by kernel_rfl)) h1 hb (fun x hx=>hlt x (List.mem_append_right _ hx)))
theorem n3 : Tryz.checked.prog.funcNamed "cassegrain/cassegraintop.TopCodeFrames" = some 3 := by kernel_rfl
theorem j3:joinedFacts Tryz.checked.prog 3 Tryz.f3 Rows.topCodeFramesSpec Rows.topCodeFramesRow=true:=by kernel_rfl
theorem i3:Tryz.f3.isInstance Tryz.checked.prog Rows.topCodeFramesRow.origin Rows.topCodeFramesRow.targs:=of_decide_eq_true (by kernel_rfl)
theorem w3:Tryz.f3.isWrapper Tryz.checked.prog Rows.topCodeFramesRow.wrapper Rows.topCodeFramesRow.mainSum:=by
 unfold Func.isWrapper
 first |(rw [if_pos (by decide +kernel)];kernel_rfl) |(rw [if_neg (by decide +kernel)];exact⟨rfl,rfl⟩)
theorem TopCodeFrames_holds:Rows.TopCodeFramesSaid:=
 OpenClaim.holds_of_wide 3 Tryz.f3 rfl rfl rfl rfl rfl rfl rfl ⟨rfl,rfl,rfl,rfl,rfl⟩ rfl rfl rfl rfl rfl n3 Tryz.func3 j3 i3 w3 (fun os started H enc _=>law3 os started H enc)
#print axioms TopCodeFrames_holds
end Go.Proofs.YtjhldefnjghcdaaGreat
