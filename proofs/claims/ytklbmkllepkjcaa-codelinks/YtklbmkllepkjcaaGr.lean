/- Contracts as a list. No condition. -/
import Derived.Test.YtklbmkllepkjcaaGw
import Derived.KernelRfl
namespace Go.Proofs.Ytklbmkllepkjcaa
section
variable {C:Ctx}(hC:C.P=Try.prog)(h:Int)(e l1:List Int)(R:Nat)(hR:R≤100)(hu:e.length≤100)(r:AV)(fr:Option Fresh)
include hC hR hu
theorem ZRt{k i:Nat}(hk:k<R)(hi:i<R)(hik:i≠k){refs:List Nat}{A:Mat}(hA:ElM A)
 (hn:∀rows,St R e.length refs rows (fun i' j=>if i'=i then A i j ^^^ Zat (A k j) (A i k)else A i' j)→Ev C (ZeK h e l1 k refs ((i+1:Nat):Int) rows) (Zdm h e l1 k refs ((i+1:Nat):Int) rows) (Zav 46 r fr)):
 ∀(c n:Nat) (rows:List (List Int)),n+c=e.length+1→St R e.length refs rows (fun i' j=>if i'=i∧j<n then A i j ^^^ Zat (A k j) (A i k)else A i' j)→Ev C (Zmj h e l1 k refs i ((A i k:Nat):Int) n rows) (ZiR h e l1 k refs i ((A i k:Nat):Int) n rows) (Zav 46 r fr):=by
 intro c
 induction c with
 |zero=>
  intro n rows hc hs
  have i0:=hn rows (hs.congr fun a b _ hb=>by by_cases h:a=i<;>simp[h,show b<n by omega])
  refine tgo hC ZaC Zn0 ?_
  simp[ZhH,show ¬(n:Int)≤(e.length:Int) by omega]at i0⊢
  exact⟨by omega,i0⟩
 |succ c ih=>
  intro n rows hc hs
  have hnu:n<e.length+1:=by omega
  have e1:rows.getD (refs.getD i 0) []=ZbH e.length (fun j=>if j<n then A i j ^^^ Zat (A k j) (A i k)else A i j):=by rw[hs.v i hi];exact ZaN fun j _=>by simp
  have e2:rows.getD (refs.getD k 0) []=ZbH e.length (A k):=by rw[hs.v k hk];exact ZaN fun j _=>by rw[if_neg (fun e=>hik e.1.symm)]
  have q1:=hs.l i hi
  have q2:=hs.l k hk
  have q3:=hs.n
  have x1:=Zbx (hA k n) (hA i k)
  have s1:=hs.setcell hi n (A i n ^^^ Zat (A k n) (A i k))
  have i0:=ih (n+1) _ (by omega) (s1.congr fun a b _ hb=>by
   by_cases ha:a=i
   ·by_cases hb2:b=n
    ·simp[ha,hb2]
    ·have:b<n+1↔b<n:=by omega
     simp[ha,hb2,this]
   ·simp[ha])
  have g1:(ZbH e.length (fun j=>if j<n then A i j ^^^ Zat (A k j) (A i k)else A i j)).getD n 0=((A i n:Nat):Int):=by rw[ZaL _ hnu];simp
  have g2:(ZbH e.length (A k)).getD n 0=((A k n:Nat):Int):=ZaL _ hnu
  have x2:=Zb7 (r:=A i n) (k:=Zat (A k n) (A i k)) (by have:=hA i n;omega) (by omega)
  have x3:gM ((A i k:Nat):Int) ((A k n:Nat):Int)=((Zat (A k n) (A i k):Nat):Int):=by rw[Zbe (hA k n) (hA i k)];rfl
  have b1:=ZaY (hA k n)
  have b2:=ZaY (hA i k)
  have r1:=ZaK e.length (fun j=>if j<n then A i j ^^^ Zat (A k j) (A i k)else A i j)
  have r2:=ZaK e.length (A k)
  refine tgo hC ZaC Zn0 ?_
  simp only[ZhH,Za5,ZaQ,ZaF,Int.toNat_natCast,e1,e2,ZaV,g1,g2,x3,x2,ZrQ,Nat.sub_zero]
  simp only[Za2,r1,r2,q3]
  simp[-List.getD_eq_getElem?_getD,q1,q2,hk,hi,hnu,b1,b2,show(n:Int)≤(e.length:Int) by omega]at i0⊢
  exact⟨by omega,i0⟩
theorem ZPJ{k:Nat}(hk:k<R){refs:List Nat}{A:Mat}(hA:ElM A)
 (hn:∀rows,St R e.length refs rows (ZgI A k)→Ev C (ZeF h e l1 ((k+1:Nat):Int) refs rows) (ZdD h e l1 ((k+1:Nat):Int) refs rows) (Zav 46 r fr)) (hku:k<e.length):
 ∀(c i:Nat) (rows:List (List Int)),i+c=R→St R e.length refs rows (fun i' j=>if i'<i then ZgI A k i' j else A i' j)→Ev C (ZeK h e l1 k refs i rows) (Zdm h e l1 k refs i rows) (Zav 46 r fr):=by
 intro c
 induction c with
 |zero=>
  intro i rows hc hs
  have i0:=hn rows (hs.congr fun a b ha _=>by rw[if_pos (by omega)])
  have q3:=hs.n
  refine tgo hC ZaC ZnP ?_
  simp[-List.getD_eq_getElem?_getD,Ze6,q3,show ¬(i:Int)<R by omega]at i0⊢
  exact⟨by omega,i0⟩
 |succ c ih=>
  intro i rows hc hs
  have hi:i<R:=by omega
  have e1:rows.getD (refs.getD i 0) []=ZbH e.length (A i):=by rw[hs.v i hi];exact ZaN fun j _=>by rw[if_neg (Nat.lt_irrefl i)]
  have q1:=hs.l i hi
  have q3:=hs.n
  have g1:(ZbH e.length (A i)).getD k 0=((A i k:Nat):Int):=ZaL _ (by omega)
  have r1:=ZaK e.length (A i)
  refine tgo hC ZaC ZnP ?_
  by_cases hik:i=k
  ·have i0:=ih (i+1) rows (by omega) (hs.congr fun a b _ _=>by
    by_cases ha:a<i
    ·rw[if_pos ha,if_pos (by omega)]
    ·rw[if_neg ha]
     by_cases ha2:a<i+1
     ·have:a=k:=by omega
      rw[if_pos ha2,this,ZgI,if_pos rfl]
     ·rw[if_neg ha2])
   simp only[Ze6,Za5,ZaQ,ZaF,Int.toNat_natCast,e1,ZaV,g1]
   simp only[Za2,r1,q3]
   subst hik
   simp[-List.getD_eq_getElem?_getD,q1,hk,show i<e.length+1 by omega]at i0⊢
   exact⟨by omega,i0⟩
  ·have i0:=ZRt hC h e l1 R hR hu r fr (k:=k) (i:=i) hk hi hik (refs:=refs) (A:=fun i' j=>if i'<i then ZgI A k i' j else A i' j) (fun a b=>by
    show(if a<i then ZgI A k a b else A a b)<16
    split
    ·exact ZsZ hA k a b
    ·exact hA a b) (fun rows2 hs2=>ih (i+1) rows2 (by omega) (hs2.congr fun a b ha hb=>by
     by_cases hai:a=i
     ·subst hai
      simp only[if_true,Nat.lt_irrefl,if_false,Nat.lt_add_one,ZgI,hik]
      by_cases hka:k<a<;>simp[hka]
     ·rw[if_neg hai]
      by_cases ha2:a<i
      ·rw[if_pos ha2,if_pos (by omega)]
      ·rw[if_neg ha2,if_neg (by omega)])) (e.length+1) 0 rows (by omega) (hs.congr fun a b _ _=>by simp)
   rw[if_neg (Nat.lt_irrefl i)]at i0
   simp only[Ze6,Za5,ZaQ,ZaF,Int.toNat_natCast,e1,ZaV,g1]
   simp only[Za2,r1,q3]
   have hik':¬(i:Int)=k:=by omega
   simp[-List.getD_eq_getElem?_getD,q1,hi,show k<e.length+1 by omega,show(i:Int)<R by omega,hik',hik]at i0⊢
   exact i0
theorem ZSK{k:Nat}(hk:k<R){refs:List Nat}{A:Mat}(hA:ElM A){c0:Nat}(hc0:c0<16)
 (hn:∀rows,St R e.length refs rows (ZbD A k c0)→Ev C (ZeK h e l1 k refs 0 rows) (Zdm h e l1 k refs 0 rows) (Zav 46 r fr)):
 ∀(c n:Nat) (rows:List (List Int)),n+c=e.length+1→St R e.length refs rows (fun i' j=>if i'=k∧j<n then Zat (A k j) c0 else A i' j)→Ev C (Zg9 h e l1 k ((c0:Nat):Int) refs n rows) (Zfe h e l1 k ((c0:Nat):Int) refs n rows) (Zav 46 r fr):=by
 have _:=hR
 intro c
 induction c with
 |zero=>
  intro n rows hc hs
  have i0:=hn rows (hs.congr fun a b _ hb=>by
   unfold ZbD
   by_cases h:a=k
   ·simp[h,show b<n by omega]
   ·simp[h])
  refine tgo hC ZaC ZoS ?_
  simp[-List.getD_eq_getElem?_getD,Ziv,show ¬(n:Int)≤(e.length:Int) by omega]at i0⊢
  exact i0
 |succ c ih=>
  intro n rows hc hs
  have hnu:n<e.length+1:=by omega
  have e2:rows.getD (refs.getD k 0) []=ZbH e.length (fun j=>if j<n then Zat (A k j) c0 else A k j):=by rw[hs.v k hk];exact ZaN fun j _=>by simp
  have q2:=hs.l k hk
  have q3:=hs.n
  have s1:=hs.setcell hk n (Zat (A k n) c0)
  have i0:=ih (n+1) _ (by omega) (s1.congr fun a b _ hb=>by
   by_cases ha:a=k
   ·by_cases hb2:b=n
    ·simp[ha,hb2]
    ·have:b<n+1↔b<n:=by omega
     simp[ha,hb2,this]
   ·simp[ha])
  have g2:(ZbH e.length (fun j=>if j<n then Zat (A k j) c0 else A k j)).getD n 0=((A k n:Nat):Int):=by rw[ZaL _ hnu];simp
  have x3:gM ((A k n:Nat):Int) ((c0:Nat):Int)=((Zat (A k n) c0:Nat):Int):=rfl
  have b1:=ZaY (hA k n)
  have b2:=ZaY hc0
  have r2:=ZaK e.length (fun j=>if j<n then Zat (A k j) c0 else A k j)
  refine tgo hC ZaC ZoS ?_
  simp only[Ziv,Za5,ZaQ,ZaF,Int.toNat_natCast,e2,ZaV,g2,x3,ZrQ,Nat.sub_zero]
  simp only[Za2,r2,q3]
  simp[-List.getD_eq_getElem?_getD,q2,hk,hnu,b1,b2,show(n:Int)≤(e.length:Int) by omega]at i0⊢
  exact⟨by omega,i0⟩
theorem ZPB{k:Nat}(hku:k<e.length){refs:List Nat}{rows:List (List Int)}{A:Mat}(hA:ElM A)(hs:St R e.length refs rows A)(hk:k<R){p:Nat}
 (h1:Ev C (Zg9 h e l1 k ((Zhk (ZaW A k p k k):Nat):Int) ((refs.set k (refs.getD p 0)).set p (refs.getD k 0)) 0 rows) (Zfe h e l1 k ((Zhk (ZaW A k p k k):Nat):Int) ((refs.set k (refs.getD p 0)).set p (refs.getD k 0)) 0 rows) (Zav 46 r fr)):
 ∀(c i:Nat),i+c=R→piv A k c i=some p→Ev C (Zlh h e l1 k refs rows i) (Zix h e l1 k refs rows i) (Zav 46 r fr):=by
 have _:=hu
 intro c
 induction c with
 |zero=>intro i _ hp;cases hp
 |succ c ih=>
  intro i hc hp
  have hi:i<R:=by omega
  have e1:=hs.v i hi
  have q1:=hs.l i hi
  have q3:=hs.n
  have g1:(ZbH e.length (A i)).getD k 0=((A i k:Nat):Int):=ZaL _ (by omega)
  have r1:=ZaK e.length (A i)
  refine tgo hC ZaC ZuG ?_
  rw[piv]at hp
  by_cases h0:A i k=0
  ·rw[if_pos h0]at hp
   have i0:=ih (i+1) (by omega) hp
   simp only[ZhB,Za5,ZaQ,ZaF,Int.toNat_natCast,e1,ZaV,g1,h0]
   simp only[Za2,r1,q3]
   simp[-List.getD_eq_getElem?_getD,q1,hi,show k<e.length+1 by omega]at i0⊢
   exact⟨by omega,i0⟩
  ·rw[if_neg h0]at hp
   cases hp
   have hs':=hs.swap hk hi
   obtain⟨refs',hr'⟩:∃x,x=(refs.set k (refs.getD p 0)).set p (refs.getD k 0):=⟨_,rfl⟩
   rw[←hr']at hs' h1
   have e2:=hs'.v k hk
   have q4:=hs'.l k hk
   have q5:=hs'.n
   have sk:ZaW A k p k k=A p k:=by simp[ZaW]
   have g2:(ZbH e.length (ZaW A k p k)).getD k 0=((A p k:Nat):Int):=by rw[ZaL _ (by omega),sk]
   have r2:=ZaK e.length (ZaW A k p k)
   have b1:=ZaY (hA p k)
   have h0':¬((A p k:Nat):Int)=0:=by omega
   rw[sk]at h1
   have x1:gI ((A p k:Nat):Int)=((Zhk (A p k):Nat):Int):=rfl
   simp only[ZhB,Za5,ZaQ,ZwJ,ZaF,Int.toNat_natCast,e1,ZaV,g1,←hr',e2,g2,x1]
   simp only[Za2,Zcq,r1,r2,q3,q5]
   simp[-List.getD_eq_getElem?_getD,q1,q4,hi,hk,h0',h0,b1,List.length_set,q3,show k<e.length+1 by omega]at h1⊢
   exact h1
theorem ZQc:∀(c k:Nat) (A B:Mat) (refs:List Nat) (rows:List (List Int)),k+c=e.length→ElM A→St R e.length refs rows A→elA R c k A=some B→(∀refs rows,St R e.length refs rows B→Ev C (Zhb h e refs rows 0 l1) (ZfK h e refs rows 0 l1) (Zav 46 r fr))→Ev C (ZeF h e l1 k refs rows) (ZdD h e l1 k refs rows) (Zav 46 r fr):=by
 intro c
 induction c with
 |zero=>
  intro k A B refs rows hc hA hs hB h1
  cases hB
  have i0:=h1 refs rows hs
  refine tgo hC ZaC Znt ?_
  simp[-List.getD_eq_getElem?_getD,Zjg,show ¬(k:Int)<(e.length:Int) by omega]at i0⊢
  exact i0
 |succ c ih=>
  intro k A B refs rows hc hA hs hB h1
  refine tgo hC ZaC Znt ?_
  rw[elA]at hB
  split at hB
  ·cases hB
  ·rename_i p hp
   obtain⟨s1,s2,s3,s4,s5,s6,s7⟩:=Zc2 hA hp
   have i0:=ZPB hC h e l1 R hR hu r fr (k:=k) (by omega) hA hs s2 (ZSK hC h e l1 R hR hu r fr s2 (Zdd hA k p) s5 (fun rows2 hs2=>
    ZPJ hC h e l1 R hR hu r fr s2 (Zfa (Zdd hA k p) k s5) (fun rows3 hs3=>ih (k+1) (Zk5 A k p) B _ rows3 (by omega) s1 hs3 hB h1) (by omega) R 0 rows2 (by omega) (hs2.congr fun a b _ _=>by simp)) (e.length+1) 0 rows (by omega) ((hs.swap s2 s3).congr fun a b _ _=>by simp)) (R-k) k (by omega) hp
   simp[-List.getD_eq_getElem?_getD,Zjg,show(k:Int)<(e.length:Int) by omega]at i0⊢
   exact i0
end
@[irreducible] def fiW (h:Int) (w e:List Int):List Int:=match fiB h w e with
 |none=>zrL w e
 |some B=>wrL (zrL w e) e (ZcS B e.length e.length)
theorem Zr2{B:Mat}(hB:ElM B)(u n j:Nat):elB ((ZcS B u n).getD j 0)=true:=by
 unfold ZcS
 by_cases hj:j<n
 ·rw[List.getD_eq_getElem?_getD,List.getElem?_map,List.getElem?_range hj];exact ZaY (hB j u)
 ·rw[List.getD_eq_getElem?_getD,List.getElem?_eq_none (by simp;omega)];rfl
theorem Zv0:∀(e vs w:List Int),ZaM w 0 15=0→(∀j,elB (vs.getD j 0)=true)→ZaM (wrL w e vs) 0 15=0
 |[],_,_,h,_=>by unfold wrL;exact h
 |_::_,[],_,h,_=>by unfold wrL;exact h
 |x::e,v::vs,w,h,hv=>by
  rw[wrL]
  exact Zv0 e vs _ (Zsr h _ (hv 0)) (fun j=>hv (j+1))
theorem Zt8{h:Int}{w e:List Int}{B:Mat}(hg:fiG w h e=true)(hB:fiB h w e=some B):ElM B∧Red B (2*h.toNat) e.length∧e.length≤2*h.toNat∧∀y,El y→(ZA B (2*h.toNat) e.length y↔ZA (fiM (zrL w e) e) (2*h.toNat) e.length y):=by
 obtain⟨g1,g2,g3,g4,g5⟩:=ZjZ hg
 obtain⟨z2,z3⟩:=okw_iff.1 (ZlQ e g1)
 exact ZfV (u:=e.length) e.length 0 _ B (Zqz z3 e) (ZcZ _ _) (by omega) (fun _=>Nat.zero_le _) hB
theorem Zrh{h:Int}{w e:List Int}(hg:fiG w h e=true):okw (fiW h w e)=true:=by
 obtain⟨g1,g2,g3,g4,g5⟩:=ZjZ hg
 obtain⟨z2,z3⟩:=okw_iff.1 (ZlQ e g1)
 obtain⟨B,hB⟩:=Zk4 hg
 have b:=(Zt8 hg hB).1
 unfold fiW
 rw[hB]
 exact okw_iff.2 ⟨by rw[ZlU,z2],Zv0 _ _ _ z3 (fun j=>Zr2 b _ _ j)⟩
section
variable {C:Ctx}(hC:C.P=Try.prog)(h:Int)(e:List Int)(he:ZH2 e)(hel:e.length≤6)
include hC he hel
theorem ZRA(hh:hfB h=true){R:Nat}{refs:List Nat}{rows:List (List Int)}{B:Mat}(hs:St R e.length refs rows B)(huR:e.length≤R)(l:List Int)(hl:okw l=true):∀(c i:Nat) (l2:List Int),i+c=e.length→l2.length=15→wrL l2 (e.drop i) ((ZcS B e.length e.length).drop i)=l→Ev C (Zhb h e refs rows i l2) (ZfK h e refs rows i l2) (Zav 46 (.tup [.row 0 0, .bool (isW h l)]) (some ⟨3,1, .ints .i64 l⟩)):=by
 intro c
 induction c with
 |zero=>
  intro i l2 hc h2 hq
  rw[List.drop_of_length_le (by omega)]at hq
  have hq:l2=l:=by unfold wrL at hq;exact hq
  subst hq
  refine tgo hC ZaC Zny ?_
  simp[-List.getD_eq_getElem?_getD,Zi2,hl,hh,show ¬(i:Int)<(e.length:Int) by omega]
 |succ c ih=>
  intro i l2 hc h2 hq
  have hi:i<e.length:=by omega
  have sl:=Zc9 B e.length e.length
  have sv:(ZcS B e.length e.length).getD i 0=((B i e.length:Nat):Int):=by
   unfold ZcS
   rw[List.getD_eq_getElem?_getD,List.getElem?_map,List.getElem?_range hi];rfl
  rw[ZdV hi,ZdV (show i<(ZcS B e.length e.length).length by omega),wrL,sv]at hq
  have i0:=ih (i+1) (l2.set (e.getD i 0).toNat ((B i e.length:Nat):Int)) (by omega) (by simp[h2]) hq
  obtain⟨p1,p2⟩:=he i hi
  have e1:=hs.v i (by omega)
  have q1:=hs.l i (by omega)
  have q3:=hs.n
  have g1:(ZbH e.length (B i)).getD e.length 0=((B i e.length:Nat):Int):=ZaL _ (by omega)
  have r1:=ZaK e.length (B i)
  refine tgo hC ZaC Zny ?_
  simp only[Zi2,Za5,ZaQ,ZaF,Zcq,Za2,Int.toNat_natCast,e1,ZaV,g1]
  simp only[r1,q3]
  simp[-List.getD_eq_getElem?_getD,q1,hi,h2,p1,show i<R by omega,show(i:Int)<(e.length:Int) by omega]at i0⊢
  refine⟨?_,i0⟩
  omega
theorem ZQ3(l1 l2:List Int)(j:Nat)(hj:j≤100)(hsy:l2.getD j 0=syI l1 (j+1))(hjl:j<l2.length)(l6:List Nat)(l7:List (List Int))(h6:l6.length≤1000)(r:AV)(fr:Option Fresh)
 (hn:Ev C (Zef h e l1 l2 ((j+1+1:Nat):Int) (l6++[l7.length]) (l7++[ZbH e.length (fiM l1 e j)])) (Zdl h e l1 l2 ((j+1+1:Nat):Int) (l6++[l7.length]) (l7++[ZbH e.length (fiM l1 e j)])) (Zav 46 r fr)):
 ∀(c i:Nat),i+c=e.length→Ev C (Zk1 h e l1 l2 ((j+1:Nat):Int) l6 l7 i (rwP e j i)) (Zi0 h e l1 l2 ((j+1:Nat):Int) l6 l7 i (rwP e j i)) (Zav 46 r fr):=by
 intro c
 induction c with
 |zero=>
  intro i hc
  refine tgo hC ZaC Zm1 ?_
  have q:=ZpN e j i
  have k1:(((j+1:Nat):Int)-1).toNat=j:=by omega
  rw[←ZvR,←show i=e.length by omega,←hsy]at hn
  simp only[ZhY,ZhX,ZaF,ZaV,k1]
  simp[-List.getD_eq_getElem?_getD,hjl,show ¬(i:Int)<(e.length:Int) by omega,q,AV.bx,Zag]at hn⊢
  exact⟨by omega,hn⟩
 |succ c ih=>
  intro i hc
  have i0:=ih (i+1) (by omega)
  have hi:i<e.length:=by omega
  obtain⟨p1,p2⟩:=he i hi
  obtain⟨x,hx⟩:=Int.eq_ofNat_of_zero_le p1
  have q:=ZpN e j i
  have m0:((j+1:Nat):Int)*(14-(x:Int))=(((j+1)*(14-x):Nat):Int):=by rw[Int.natCast_mul];congr 1;omega
  have m1:(j+1)*(14-x)≤101*14:=Nat.mul_le_mul (by omega) (by omega)
  have mt:((((j+1)*(14-x):Nat):Int)).tmod 15=(((j+1)*(14-x)%15:Nat):Int):=rfl
  have e1:gP (((j+1)*(14-x)%15:Nat):Int)=((Zbm ((j+1)*(14-x)):Nat):Int):=by rw[Ztz ((j+1)*(14-x))];rfl
  rw[ZtS,hx,Int.toNat_natCast]at i0
  refine tgo hC ZaC Zm1 ?_
  simp only[ZhY,ZaV,ZaF,Zjn,ZcU,ZhX,ZzV,Int.toNat_natCast,hx,m0,mt,e1]
  generalize (j+1)*(14-x)=y at m1 i0⊢
  simp[-List.getD_eq_getElem?_getD,hi,q,AV.bx,Zag]at i0⊢
  refine⟨?_,i0⟩
  omega
theorem ZQq(hh:1≤h∧h≤3)(l1:List Int)(R:Nat)(hR:(R:Int)=2*h)(r:AV)(fr:Option Fresh)
 (hn:Ev C (ZeF h e l1 0 (List.range R) (rwM l1 e R)) (ZdD h e l1 0 (List.range R) (rwM l1 e R)) (Zav 46 r fr)):
 ∀(c j:Nat),j+c=R→Ev C (Zef h e l1 (syL l1 R) ((j+1:Nat):Int) (List.range j) (rwM l1 e j)) (Zdl h e l1 (syL l1 R) ((j+1:Nat):Int) (List.range j) (rwM l1 e j)) (Zav 46 r fr):=by
 intro c
 induction c with
 |zero=>
  intro j hc
  refine tgo hC ZaC Zoe ?_
  rw[show j=R by omega]
  simp[-List.getD_eq_getElem?_getD,Zjt,show ¬(R:Int)+1≤2*h by omega]at hn⊢
  exact⟨by omega,hn⟩
 |succ c ih=>
  intro j hc
  have i0:=ih (j+1) (by omega)
  have q:=ZrV l1 e j
  rw[Zug,List.range_succ]at i0
  have sj:(syL l1 R).getD j 0=syI l1 (j+1):=by
   unfold syL
   rw[List.getD_eq_getElem?_getD,List.getElem?_map,List.getElem?_range (by omega)];rfl
  have sl:=ZeT l1 R
  have i1:=ZQ3 hC h e he hel l1 (syL l1 R) j (by omega) sj (by omega) (List.range j) (rwM l1 e j) (by simp;omega) r fr (by rw[q];exact i0) e.length 0 (by omega)
  refine tgo hC ZaC Zoe ?_
  simp[-List.getD_eq_getElem?_getD,Zjt,show(j:Int)+1≤2*h by omega,rwP]at i1⊢
  exact⟨by omega,i1⟩
theorem ZRo(hh:hfB h=true)(z:List Int)(r:AV)(fr:Option Fresh)
 (hn:Ev C (Zef h e z (syL z (2*h.toNat)) 1 [] []) (Zdl h e z (syL z (2*h.toNat)) 1 [] []) (Zav 46 r fr)) (hok:okw z=true):
 ∀(c i:Nat) (l2:List Int),i+c=e.length→l2.length=15→zrL l2 (e.drop i)=z→Ev C (Zlg h e i l2) (ZiE h e i l2) (Zav 46 r fr):=by
 intro c
 induction c with
 |zero=>
  intro i l2 hc h2 hq
  rw[List.drop_of_length_le (by omega),zrL]at hq
  subst hq
  refine tgo hC ZaC ZoE ?_
  simp[-List.getD_eq_getElem?_getD,Zhy,hok,hh,show ¬(i:Int)<(e.length:Int) by omega]at hn⊢
  exact hn
 |succ c ih=>
  intro i l2 hc h2 hq
  have hi:i<e.length:=by omega
  rw[ZdV hi,zrL]at hq
  have i0:=ih (i+1) (l2.set (e.getD i 0).toNat 0) (by omega) (by simp[h2]) hq
  obtain⟨p1,p2⟩:=he i hi
  refine tgo hC ZaC ZoE ?_
  simp[-List.getD_eq_getElem?_getD,Zhy,hi,h2,p1,show(i:Int)<(e.length:Int) by omega]at i0⊢
  refine⟨?_,i0⟩
  omega
end
theorem ZvS(h:Int)(w e:List Int)(hg:fiG w h e=true):Zaj Try.prog 46 [.int .i64 h, .list (.ints .i64 w), .list (.ints .i64 e)] (.tup [.row 0 0, .bool (isW h (fiW h w e))]) (some ⟨3,1, .ints .i64 (fiW h w e)⟩):=by
 obtain⟨g1,g2,g3,g4,_⟩:=ZjZ hg
 obtain⟨w1,w2⟩:=okw_iff.1 g1
 have z1:=ZlQ e g1
 obtain⟨z2,z3⟩:=okw_iff.1 z1
 have hh:hfB h=true:=decide_eq_true g2
 have hel:e.length≤6:=by omega
 obtain⟨B,hB⟩:=Zk4 hg
 obtain⟨b1,b2,b3,b4⟩:=Zt8 hg hB
 have hv:fiW h w e=wrL (zrL w e) e (ZcS B e.length e.length):=by unfold fiW;rw[hB]
 refine start (ZFq h w e) fun C hC=>tgo hC ZaC ZPU ?_
 have i0:=ZQc hC h e (zrL w e) (2*h.toNat) (by omega) (by omega) (.tup [.row 0 0, .bool (isW h (fiW h w e))]) (some ⟨3,1, .ints .i64 (fiW h w e)⟩) e.length 0 _ B (List.range (2*h.toNat)) (rwM (zrL w e) e (2*h.toNat)) (by omega) (Zqz z3 e) (ZDp _ _ _) hB (fun refs rows hs=>
  ZRA hC h e g4 hel hh hs b3 (fiW h w e) (Zrh hg) e.length 0 (zrL w e) (by omega) z2 (by rw[List.drop_zero,List.drop_zero,hv]))
 have i1:=ZQq hC h e g4 hel g2 (zrL w e) (2*h.toNat) (by omega) _ _ i0 (2*h.toNat) 0 (by omega)
 have i2:=ZRo hC h e g4 hel hh (zrL w e) (.tup [.row 0 0, .bool (isW h (fiW h w e))]) (some ⟨3,1, .ints .i64 (fiW h w e)⟩) (by simpa[rwM]using i1) z1 e.length 0 w (by omega) w1 (by rw[List.drop_zero])
 simp[ZIe,w1]at i2⊢
 exact i2
def k46:Ctr:=⟨46,0,fun _ a=>match a with |[.int .i64 h, .list (.ints .i64 w), .list (.ints .i64 e)]=>some (decide (fiG w h e=true), .tup [.row 0 0, .bool (isW h (fiW h w e))],some ⟨3,1, .ints .i64 (fiW h w e)⟩) |_=>none⟩
theorem ZJ0:k46.OK Try.prog:=fun pa args r fr h=>by
 simp only[k46]at h
 split at h
 ·simp only[Option.some.injEq,Prod.mk.injEq,decide_eq_true_eq]at h
  obtain⟨h0,rfl,rfl⟩:=h
  exact ZvS _ _ _ h0
 ·cases h
def Kh:List Ctr:=[k46]++Kg
theorem Zsj:Zay Try.prog Kh:=⟨ZJ0,ZR5⟩
end Go.Proofs.Ytklbmkllepkjcaa
/- Paths of functions, printed by the explorer (Gx). No condition. -/
namespace Go.Proofs.Ytklbmkllepkjcaa
set_option maxRecDepth 100000
set_option linter.unusedVariables false
def ZMb(h:Int)(d:List Int):AFrame:=vF 76 31 [vI 0 h,vL 1 d] [.code a76.code] [ARes.cell 4 true 15]
def ZVP(h:Int)(d:List Int):List AFrame:=[(ZMb h d)]
theorem ZGZ(h:Int)(d:List Int):Zal tab 76 [AV.int .i64 h,AV.list (.ints .i64 d)]=some (ZMb h d):=rfl
def ZkZ(h n0:Int)(l1 l2:List Int):List AFrame:=[vF 76 31 [vI 0 h,vP 4 76005,vP 5 76006,vR 6 76023,vI 7 n0] (vC ZMI ZQI) [ARes.cell 4 true 15]]
def Zio(h n0:Int)(l1 l2:List Int):Zaa:=[(76005,{ base:=0,blks:=[Blk.row 107 15 (Row.gen [.agg (.ints .i64 [0,0,0,0,0,0,0,0,0,0,0,0,0,0,0])])] }),(76006,{ base:=0,blks:=[Blk.row 107 15 (Row.gen [.agg (.ints .i64 l1)])] }),vK 76023 l2]
abbrev ZnQ(h n0:Int)(l1 l2:List Int):List AFrame×Zaa:=(ZkZ h n0 l1 l2,Zio h n0 l1 l2)
def ZKT(A:Ar)(K:KT)(F:FT)(h:Int)(d:List Int):Prop:=let u0:=A.len [0,0,0,0,0,0,0,0,0,0,0,0,0,0,0];rB [Nat.ble 15 u0,Nat.blt 0 u0,Nat.blt 0 u0] (K (ZnQ h (A.int (A.len d)) (A.app (A.app (A.sub3 [0,0,0,0,0,0,0,0,0,0,0,0,0,0,0] 0 0) (A.sub3 d 0 (Decidable.rec (fun h=>(fun x=>15) h) (fun h=>(fun x=>Row.len A (.ints .i64 d)) h) (Nat.decLe (Row.len A (.ints .i64 d)) 15)))) (A.sub3 [0,0,0,0,0,0,0,0,0,0,0,0,0,0,0] (0+A.len (A.sub3 d 0 (Decidable.rec (fun h=>(fun x=>15) h) (fun h=>(fun x=>Row.len A (.ints .i64 d)) h) (Nat.decLe (Row.len A (.ints .i64 d)) 15)))) u0)) []))
theorem ZPt{A:Ar}{K:KT}{F:FT}{M:MT}{h:Int}{d:List Int} :Zah A tab Kh 76 K F M (.run 29 (.hd)) (ZVP h d) []=ZKT A K F h d:=by kernel_rfl
def ZiJ(A:Ar)(K:KT)(F:FT)(h n0:Int)(l1 l2:List Int):Prop:=let u1:=A.sub3 l1 0 15;let u0:=A.sub3 (fiV h u1 l2) 0 15;let u2:=A.len (fiV h u1 l2);bB (A.lt n0 15) (rB [A.inR .i64 (A.add n0 1),Nat.ble (A.len l2+A.len [n0]) 4294967296,List.all [AV.int .i64 n0] fun x=>AV.bx x&&Nat.beq (Zag A x) 1] (K (ZnQ h (A.add n0 1) l1 (A.app l2 [n0])))) (rB [Nat.beq (A.len u0) 15,Nat.ble 15 u2,Nat.beq u2 15,Nat.blt 0 (A.len [0,0,0,0,0,0,0,0,0,0,0,0,0,0,0]),decide (fiG u1 h l2=true),Nat.ble 15 (A.len l1)] (rB [Zad (Zad (Nat.ble 15 (A.len u0)) true) true] (F (AV.agg (.ints .i64 (A.sub3 u0 0 15))) none)))
theorem ZmV{A:Ar}{K:KT}{F:FT}{M:MT}{h n0:Int}{l1 l2:List Int} :Zah A tab Kh 76 K F M (.run 7 (.tf (.run 18 (.hd)) (.run 21 (.fn)))) (ZkZ h n0 l1 l2) (Zio h n0 l1 l2)=ZiJ A K F h n0 l1 l2:=by kernel_rfl
def ZJc(h:Int)(d:List Int):AFrame:=vF 27 35 [vI 0 h,vL 1 d] [.code a27.code] [.tmp 4]
def ZVh(h:Int)(d:List Int):List AFrame:=[(ZJc h d)]
theorem ZE6(h:Int)(d:List Int):Zal tab 27 [AV.int .i64 h,AV.list (.ints .i64 d)]=some (ZJc h d):=rfl
def ZkC(h n0:Int)(l1 l2:List Int):List AFrame:=[vF 27 35 [vI 0 h,vR 5 27015,vR 6 27027,vI 7 n0] (vC ZJA ZSm) [.tmp 4]]
def ZhP(h n0:Int)(l1 l2:List Int):Zaa:=[vK 27015 l1,vK 27027 l2]
abbrev ZnI(h n0:Int)(l1 l2:List Int):List AFrame×Zaa:=(ZkC h n0 l1 l2,ZhP h n0 l1 l2)
def ZLG(A:Ar)(K:KT)(F:FT)(h:Int)(d:List Int):Prop:=let u0:=A.mul 2 h;rB [Zad (A.le 0 u0) (Nat.ble (A.len d+A.nat u0) 4294967296),A.inR .i64 u0,decide (List.length d≤1000000)] (K (ZnI h (A.int (A.len d)) (A.app d (A.rep (A.nat u0) 0)) []))
theorem ZR0{A:Ar}{K:KT}{F:FT}{M:MT}{h:Int}{d:List Int} :Zah A tab Kh 27 K F M (.run 28 (.hd)) (ZVh h d) []=ZLG A K F h d:=by kernel_rfl
def Zh8(A:Ar)(K:KT)(F:FT)(h n0:Int)(l1 l2:List Int):Prop:=bB (A.lt n0 (A.int (A.len l1))) (rB [A.inR .i64 (A.add n0 1),Nat.ble (A.len l2+A.len [n0]) 4294967296,List.all [AV.int .i64 n0] fun x=>AV.bx x&&Nat.beq (Zag A x) 1] (K (ZnI h (A.add n0 1) l1 (A.app l2 [n0])))) (rB [decide (fiG l1 h l2=true)] (F (AV.row 0 0) (some { e:=3,sz:=1,r:=.ints .i64 (fiW h l1 l2) })))
theorem Znf{A:Ar}{K:KT}{F:FT}{M:MT}{h n0:Int}{l1 l2:List Int} :Zah A tab Kh 27 K F M (.run 9 (.tf (.run 18 (.hd)) (.run 20 (.fn)))) (ZkC h n0 l1 l2) (ZhP h n0 l1 l2)=Zh8 A K F h n0 l1 l2:=by kernel_rfl
end Go.Proofs.Ytklbmkllepkjcaa
/- Contracts as a list. No condition. -/
namespace Go.Proofs.Ytklbmkllepkjcaa
def Zqo(d:List Int):List Int:=d++List.replicate (15-d.length) 0
def erT(n k:Nat):List Int:=(List.range k).map fun i=>((n+i:Nat):Int)
theorem ZpA(n k:Nat):(erT n k).length=k:=by simp[erT]
theorem Zti(n k:Nat):erT n (k+1)=erT n k++[((n+k:Nat):Int)]:=by unfold erT;rw[List.range_succ,List.map_append];rfl
theorem ZBr(n k:Nat):erT n (k+1)=(n:Int)::erT (n+1) k:=by
 unfold erT
 rw[List.range_succ_eq_map,List.map_cons,List.map_map,Nat.add_zero]
 congr 1
 refine List.map_congr_left fun i _=>?_
 show((n+(i+1):Nat):Int)=((n+1+i:Nat):Int)
 omega
theorem ZLx:∀(k n:Nat) (p:Int),n+k≤15→p<n→erP p (erT n k)=0
 |0,_,_,_,_=>rfl
 |k+1,n,p,h1,h2=>by
  rw[ZBr,erP,if_pos (show Zao (n:Int) 0 14=true from decide_eq_true (by omega)),if_pos h2]
  exact ZLx k (n+1) n (by omega) (by omega)
theorem Zpp{d:List Int}(h:d.length≤15):(Zqo d).length=15:=by unfold Zqo;simp;omega
theorem Zzx{d:List Int}(h:ZaM d 0 15=0):ZaM (Zqo d) 0 15=0:=ZfY fun j hj=>by
 unfold Zqo
 rw[List.getD_eq_getElem?_getD,List.getElem?_append]
 split
 ·rename_i hlt
  have:=Zjl h j
  rw[List.getD_eq_getElem?_getD]at this
  have:=of_decide_eq_true this
  exact decide_eq_true (by omega)
 ·rw[List.getElem?_replicate];split<;>rfl
def daB(h:Int)(d:List Int):Bool:=hfB h&&decide (elE d (15-2*h)=0)
theorem Zn6{h:Int}{d:List Int}(g:daB h d=true):(1≤h∧h≤3)∧(d.length:Int)=15-2*h∧ZaM d 0 15=0:=by
 unfold daB at g
 rw[Bool.and_eq_true]at g
 obtain⟨a,b⟩:=ZD3 (of_decide_eq_true g.2)
 exact⟨of_decide_eq_true g.1,a,b⟩
theorem Zuk{h:Int}{d:List Int}(g:daB h d=true):fiG (Zqo d) h (erT d.length (15-d.length))=true:=by
 obtain⟨g1,g2,g3⟩:=Zn6 g
 unfold fiG
 rw[Bool.and_eq_true,Bool.and_eq_true]
 refine⟨okw_iff.2 ⟨Zpp (by omega),Zzx g3⟩,decide_eq_true g1,decide_eq_true ?_⟩
 unfold erE
 rw[ZpA,if_neg (by omega)]
 exact ZLx _ _ _ (by omega) (by omega)
def enW(h:Int)(d:List Int):List Int:=fiW h (Zqo d) (erT d.length (15-d.length))
theorem ZL6{h:Int}{d:List Int}(g:daB h d=true):fiV h (Zqo d) (erT d.length (15-d.length))=enW h d∧fiO h (Zqo d) (erT d.length (15-d.length))=true:=by
 obtain⟨g1,g2,g3⟩:=Zn6 g
 obtain⟨B,hB⟩:=Zk4 (Zuk g)
 have hz:fiZ (2*h.toNat) (erT d.length (15-d.length)).length B=true:=fiZ_iff.2 fun i a b=>by rw[ZpA]at a;omega
 unfold enW fiW fiV fiO
 rw[hB]
 simp only[hz,if_true,and_self]
theorem Zwk{h:Int}{w e:List Int}(hw:w.length=15):(fiV h w e).length=15:=by
 unfold fiV
 split
 ·simp
 ·split
  ·rw[ZlU,ZsI,hw]
  ·simp
section
variable {C:Ctx}(hC:C.P=Try.prog)(h:Int)(d:List Int)(g:daB h d=true)
include hC g
theorem E76:∀(k i:Nat),d.length+i+k=15→Ev C (ZkZ h ((d.length+i:Nat):Int) (Zqo d) (erT d.length i)) (Zio h ((d.length+i:Nat):Int) (Zqo d) (erT d.length i)) (Zav 76 (.agg (.ints .i64 (enW h d))) none):=by
 obtain⟨g1,g2,g3⟩:=Zn6 g
 have hp:=Zpp (d:=d) (by omega)
 have e1:=Zg8 hp
 obtain⟨v1,v2⟩:=ZL6 g
 have vl:=Zwk (h:=h) (e:=erT d.length (15-d.length)) hp
 have e2:=Zg8 vl
 intro k
 induction k with
 |zero=>
  intro i hi
  have hi2:i=15-d.length:=by omega
  have hn:¬((d.length+i:Nat):Int)<15:=by omega
  refine tgo hC Zsj ZmV ?_
  rw[hi2]at hn⊢
  rw[←v1]
  simp only[ZiJ,e1,e2]
  simp[-List.getD_eq_getElem?_getD,Zuk g,hp,vl]
  omega
 |succ k ih=>
  intro i hi
  have i0:=ih (i+1) (by omega)
  rw[Zti,show d.length+(i+1)=d.length+i+1 by omega]at i0
  have l:=ZpA d.length i
  have hlt:((d.length+i:Nat):Int)<15:=by omega
  refine tgo hC Zsj ZmV ?_
  have hi15:i≤15:=by omega
  generalize d.length+i=n at*
  simp[-List.getD_eq_getElem?_getD,ZiJ,hlt,l,AV.bx,Zag]at i0⊢
  exact⟨by omega,i0⟩
theorem E27:∀(k i:Nat),d.length+i+k=15→Ev C (ZkC h ((d.length+i:Nat):Int) (Zqo d) (erT d.length i)) (ZhP h ((d.length+i:Nat):Int) (Zqo d) (erT d.length i)) (Zav 27 (.row 0 0) (some ⟨3,1, .ints .i64 (enW h d)⟩)):=by
 obtain⟨g1,g2,g3⟩:=Zn6 g
 have hp:=Zpp (d:=d) (by omega)
 intro k
 induction k with
 |zero=>
  intro i hi
  have hi2:i=15-d.length:=by omega
  have hn:¬((d.length+i:Nat):Int)<15:=by omega
  refine tgo hC Zsj Znf ?_
  rw[hi2]at hn⊢
  simp[-List.getD_eq_getElem?_getD,Zh8,Zuk g,hp,enW]
  omega
 |succ k ih=>
  intro i hi
  have i0:=ih (i+1) (by omega)
  rw[Zti,show d.length+(i+1)=d.length+i+1 by omega]at i0
  have l:=ZpA d.length i
  have hlt:((d.length+i:Nat):Int)<15:=by omega
  refine tgo hC Zsj Znf ?_
  have hi15:i≤15:=by omega
  generalize d.length+i=n at*
  simp[-List.getD_eq_getElem?_getD,Zh8,hlt,hp,l,AV.bx,Zag]at i0⊢
  exact⟨by omega,i0⟩
end
theorem ZA9(h:Int)(d:List Int)(g:daB h d=true):Zaj Try.prog 76 [.int .i64 h, .list (.ints .i64 d)] (.agg (.ints .i64 (enW h d))) none:=by
 obtain⟨g1,g2,g3⟩:=Zn6 g
 refine start (ZGZ h d) fun C hC=>tgo hC Zsj ZPt ?_
 have i:=E76 hC h d g (15-d.length) 0 (by omega)
 have hm:d.length≤15:=by omega
 have hd:Nat.decLe (Row.len std (.ints .i64 d)) 15=isTrue (show Row.len std (.ints .i64 d)≤15 from hm):=Subsingleton.elim _ _
 have e9:std.app (std.app (std.sub3 [0,0,0,0,0,0,0,0,0,0,0,0,0,0,0] 0 0) (std.sub3 d 0 (Row.len std (.ints .i64 d)))) (std.sub3 [0,0,0,0,0,0,0,0,0,0,0,0,0,0,0] (0+std.len (std.sub3 d 0 (Row.len std (.ints .i64 d)))) (std.len [0,0,0,0,0,0,0,0,0,0,0,0,0,0,0]))=Zqo d:=by
  have l1:std.sub3 d 0 (Row.len std (.ints .i64 d))=d:=by show(d.drop 0).take d.length=d;rw[List.drop_zero,List.take_length]
  rw[l1]
  show []++d++(([0,0,0,0,0,0,0,0,0,0,0,0,0,0,0]:List Int).drop (0+d.length)).take 15=Zqo d
  unfold Zqo
  rw[show ([0,0,0,0,0,0,0,0,0,0,0,0,0,0,0]:List Int)=List.replicate 15 0 from rfl,List.nil_append,Nat.zero_add,List.drop_replicate,List.take_replicate,show min 15 (15-d.length)=15-d.length by omega]
 unfold ZKT
 rw[hd]
 simp only[e9]
 simp[-List.getD_eq_getElem?_getD,erT]at i⊢
 exact i
theorem Zzc(h:Int)(d:List Int)(g:daB h d=true):Zaj Try.prog 27 [.int .i64 h, .list (.ints .i64 d)] (.row 0 0) (some ⟨3,1, .ints .i64 (enW h d)⟩):=by
 obtain⟨g1,g2,g3⟩:=Zn6 g
 refine start (ZE6 h d) fun C hC=>tgo hC Zsj ZR0 ?_
 have i:=E27 hC h d g (15-d.length) 0 (by omega)
 have e:d++List.replicate (2*h).toNat 0=Zqo d:=by unfold Zqo;congr 2;omega
 simp only[ZLG,Zjn,ZaF,ZFg,ZMq,e]
 simp[-List.getD_eq_getElem?_getD,erT]at i⊢
 exact⟨by omega,i⟩
def k76:Ctr:=⟨76,0,fun _ a=>match a with |[.int .i64 h, .list (.ints .i64 d)]=>some (decide (daB h d=true), .agg (.ints .i64 (enW h d)),none) |_=>none⟩
theorem ZLT:k76.OK Try.prog:=fun pa args r fr h=>by
 simp only[k76]at h
 split at h
 ·simp only[Option.some.injEq,Prod.mk.injEq,decide_eq_true_eq]at h
  obtain⟨h0,rfl,rfl⟩:=h
  exact ZA9 _ _ h0
 ·cases h
def k27:Ctr:=⟨27,0,fun _ a=>match a with |[.int .i64 h, .list (.ints .i64 d)]=>some (decide (daB h d=true), .row 0 0,some ⟨3,1, .ints .i64 (enW h d)⟩) |_=>none⟩
theorem ZLn:k27.OK Try.prog:=fun pa args r fr h=>by
 simp only[k27]at h
 split at h
 ·simp only[Option.some.injEq,Prod.mk.injEq,decide_eq_true_eq]at h
  obtain⟨h0,rfl,rfl⟩:=h
  exact Zzc _ _ h0
 ·cases h
def Ki:List Ctr:=[k76,k27]++Kh
theorem ZPK:Zay Try.prog Ki:=⟨ZLT,⟨ZLn,Zsj⟩⟩
end Go.Proofs.Ytklbmkllepkjcaa
/- Contracts as a list. No condition. -/
namespace Go.Proofs.Ytklbmkllepkjcaa
def poM(s:List Int)(u:Nat):Mat:=fun j i=>if i<u then(s.getD (j+u-(i+1)) 0).toNat else if i=u then(s.getD (j+u) 0).toNat else 0
def evP(z:Nat):Nat→Nat→List Nat→Nat
 |m,_,[]=>m
 |m,t,a::l=>evP z (m ^^^ Zat a (Zat t z)) (Zat t z) l
def zN(i:Nat):Nat:=Zhk (Zbm (14-i))
def cN(B:Mat)(u:Nat):List Nat:=(List.range u).map fun j=>B j u
def poX(c:List Nat)(n:Nat):List Int:=((List.range n).filter fun i=>evP (zN i) 1 1 c==0).map fun i:Nat=>(i:Int)
def poB(s:List Int)(u:Nat):Option Mat:=elA (s.length-u) u 0 (poM s u)
def poC(s:List Int)(u:Nat):Option (List Nat):=match poB s u with
 |none=>none
 |some B=>if fiZ (s.length-u) u B=true then some (cN B u)else none
def ZmB(s:List Int)(u:Nat):List Int:=match poC s u with
 |none=>[]
 |some c=>poX c 15
def poO(s:List Int)(u:Nat):Bool:=match poC s u with
 |none=>false
 |some c=>decide ((poX c 15).length=u)
theorem ZDR{s:List Int}(h:s.all elB=true)(j:Nat):elB (s.getD j 0)=true:=by
 by_cases hj:j<s.length
 ·exact List.all_eq_true.1 h _ (Zbq hj)
 ·rw[List.getD_eq_getElem?_getD,List.getElem?_eq_none (by omega)];rfl
theorem ZtT{s:List Int}(h:s.all elB=true)(u:Nat):ElM (poM s u):=fun j i=>by
 have k:=fun n=>of_decide_eq_true (ZDR h n)
 unfold poM
 split
 ·have:=k (j+u-(i+1));omega
 ·split
  ·have:=k (j+u);omega
  ·decide
def pwM(s:List Int)(u n:Nat):List (List Int):=(List.range n).map fun j=>ZbH u (poM s u j)
theorem Zyq(s:List Int)(u n:Nat):(pwM s u n).length=n:=by simp[pwM]
theorem ZyU(s:List Int)(u n:Nat):pwM s u (n+1)=pwM s u n++[ZbH u (poM s u n)]:=by unfold pwM;rw[List.range_succ,List.map_append];rfl
theorem ZCB(s:List Int)(u R:Nat):St R u (List.range R) (pwM s u R) (poM s u):=by
 have g:∀i,i<R→(List.range R).getD i 0=i:=fun i hi=>by rw[List.getD_eq_getElem?_getD,List.getElem?_range hi];rfl
 refine⟨List.length_range,fun i j hi hj e=>by rw[g i hi,g j hj]at e;exact e,fun i hi=>by rw[g i hi,Zyq];exact hi,fun i hi=>?_⟩
 rw[g i hi]
 unfold pwM
 rw[List.getD_eq_getElem?_getD,List.getElem?_map,List.getElem?_range hi];rfl
def pwP(s:List Int)(u j n:Nat):List Int:=(List.range n).map fun i=>s.getD (j+u-(i+1)) 0
theorem ZyK(s:List Int)(u j n:Nat):(pwP s u j n).length=n:=by simp[pwP]
theorem Zy6(s:List Int)(u j n:Nat):pwP s u j (n+1)=pwP s u j n++[s.getD (j+u-(n+1)) 0]:=by unfold pwP;rw[List.range_succ,List.map_append];rfl
theorem ZEQ{s:List Int}(h:s.all elB=true)(u j:Nat):pwP s u j u++[s.getD (j+u) 0]=ZbH u (poM s u j):=by
 have k:=fun n=>of_decide_eq_true (ZDR h n)
 unfold ZbH
 rw[List.range_succ,List.map_append]
 congr 1
 ·unfold pwP
  refine List.map_congr_left fun i hi=>?_
  rw[poM,if_pos (List.mem_range.1 hi)]
  have:=k (j+u-(i+1));omega
 ·rw[List.map_cons,List.map_nil,poM,if_neg (Nat.lt_irrefl _),if_pos rfl]
  have:=k (j+u)
  congr 1;omega
section
variable {C:Ctx}(hC:C.P=Try.prog)(s:List Int)(hs:s.all elB=true)(hl:s.length≤6)(u:Nat)(hu:u≤6)
include hC hs hl hu
theorem ZNt(j:Nat)(hj:j+u<s.length)(l1:List Nat)(l2:List (List Int))(h1:l1.length≤1000)(r:AV)(fr:Option Fresh)
 (hn:Ev C (ZdS s u ((j+1:Nat):Int) (l1++[l2.length]) (l2++[ZbH u (poM s u j)])) (ZcY s u ((j+1:Nat):Int) (l1++[l2.length]) (l2++[ZbH u (poM s u j)])) (Zav 116 r fr)):
 ∀(c i:Nat),i+c=u→Ev C (Zgi s u j l1 l2 ((i+1:Nat):Int) (pwP s u j i)) (Zd9 s u j l1 l2 ((i+1:Nat):Int) (pwP s u j i)) (Zav 116 r fr):=by
 intro c
 induction c with
 |zero=>
  intro i hc
  have q:=ZyK s i j i
  have k1:((j:Int)+(u:Int)).toNat=j+u:=by omega
  rw[←ZEQ hs,←show i=u by omega]at hn
  rw[←show i=u by omega]at k1 hj⊢
  refine tgo hC ZaC ZjR ?_
  simp only[ZeA,ZcU,ZaF,ZaV,k1]
  simp[-List.getD_eq_getElem?_getD,hj,show ¬(i:Int)+1≤(i:Int) by omega,q,AV.bx,Zag]at hn⊢
  exact⟨by omega,hn⟩
 |succ c ih=>
  intro i hc
  have q:=ZyK s u j i
  have i0:=ih (i+1) (by omega)
  rw[Zy6]at i0
  have k1:((j:Int)+(u:Int)-((i+1:Nat):Int)).toNat=j+u-(i+1):=by omega
  have hlt:j+u-(i+1)<s.length:=by omega
  refine tgo hC ZaC ZjR ?_
  simp only[ZeA,ZcU,ZhX,ZaF,ZaV,k1]
  simp[-List.getD_eq_getElem?_getD,hlt,show(i:Int)+1≤(u:Int) by omega,q,AV.bx,Zag]at i0⊢
  refine⟨?_,i0⟩
  omega
theorem ZCX(huS:u≤s.length)(r:AV)(fr:Option Fresh)
 (hn:Ev C (ZbR s u ((s.length-u:Nat):Int) ((s.length:Nat):Int) ((s.length:Nat):Int) false 0 (List.range (s.length-u)) (pwM s u (s.length-u))) (ZbG s u ((s.length-u:Nat):Int) ((s.length:Nat):Int) ((s.length:Nat):Int) false 0 (List.range (s.length-u)) (pwM s u (s.length-u))) (Zav 116 r fr)):
 ∀(c j:Nat),j+c=s.length-u→Ev C (ZdS s u j (List.range j) (pwM s u j)) (ZcY s u j (List.range j) (pwM s u j)) (Zav 116 r fr):=by
 intro c
 induction c with
 |zero=>
  intro j hc
  refine tgo hC ZaC ZjS ?_
  have e1:(j:Int)+(u:Int)=(s.length:Int):=by omega
  rw[←show j=s.length-u by omega]at hn
  simp only[Zem,ZcU,e1]
  simp[-List.getD_eq_getElem?_getD]at hn⊢
  exact⟨by omega,hn⟩
 |succ c ih=>
  intro j hc
  have i0:=ih (j+1) (by omega)
  have q:=Zyq s u j
  rw[ZyU,List.range_succ]at i0
  have i1:=ZNt hC s hs hl u hu j (by omega) (List.range j) (pwM s u j) (by simp;omega) r fr (by rw[q];exact i0) u 0 (by omega)
  refine tgo hC ZaC ZjS ?_
  simp[-List.getD_eq_getElem?_getD,Zem,show(j:Int)+(u:Int)<(s.length:Int) by omega,pwP]at i1⊢
  exact⟨by omega,i1⟩
end
theorem Zo0(c:List Nat)(n:Nat):poX c (n+1)=if evP (zN n) 1 1 c=0 then poX c n++[(n:Int)]else poX c n:=by
 unfold poX
 rw[List.range_succ,List.filter_append,List.map_append]
 by_cases h:evP (zN n) 1 1 c=0<;>simp[h]
theorem Zw7(c:List Nat):∀n,(poX c n).length≤n
 |0=>by simp[poX]
 |n+1=>by
  have:=Zw7 c n
  rw[Zo0];split<;>simp<;>omega
theorem ZLL{B:Mat}{u j:Nat}(h:j<u):(cN B u).drop j=B j u::(cN B u).drop (j+1):=by
 rw[List.drop_eq_getElem_cons (by simp[cN];exact h)]
 simp[cN]
theorem ZLz(B:Mat)(u:Nat):(cN B u).length=u:=by simp[cN]
theorem ZRE(i:Nat):zN i<16:=(ZzE (ZbO _) (Zu3 _)).1
section
variable {C:Ctx}(hC:C.P=Try.prog)(u:Nat)(hu:u≤6)(rows:List (List Int)){B:Mat}(hB:ElM B)
include hC hu hB
theorem ZKV(i:Nat)(hi:i<15)(l:List Int)(hl:l.length≤15)(r:AV)(fr:Option Fresh)
 (hn:Ev C (Zb1 u rows (ZcS B u u) ((i+1:Nat):Int) (if evP (zN i) 1 1 (cN B u)=0 then l++[(i:Int)]else l)) (ZbE u rows (ZcS B u u) ((i+1:Nat):Int) (if evP (zN i) 1 1 (cN B u)=0 then l++[(i:Int)]else l)) (Zav 116 r fr)):
 ∀(c k m t:Nat),k+c=u→m<16→t<16→evP (zN i) m t ((cN B u).drop k)=evP (zN i) 1 1 (cN B u)→Ev C (ZfW u rows (ZcS B u u) i l u ((m:Nat):Int) ((t:Nat):Int) k ((zN i:Nat):Int)) (Zey u rows (ZcS B u u) i l u ((m:Nat):Int) ((t:Nat):Int) k ((zN i:Nat):Int)) (Zav 116 r fr):=by
 intro c
 induction c with
 |zero=>
  intro k m t hc hm ht he
  rw[List.drop_of_length_le (by rw[ZLz];omega),evP]at he
  refine tgo hC ZaC Zkg ?_
  rw[←he]at hn
  by_cases h0:m=0
  ·subst h0
   simp[-List.getD_eq_getElem?_getD,Zc4,show ¬(k:Int)<(u:Int) by omega,AV.bx,Zag]at hn⊢
   exact⟨by omega,hn⟩
  ·have h0':¬((m:Nat):Int)=0:=by omega
   simp[-List.getD_eq_getElem?_getD,Zc4,show ¬(k:Int)<(u:Int) by omega,h0,AV.bx,Zag]at hn⊢
   exact⟨by omega,hn⟩
 |succ c ih=>
  intro k m t hc hm ht he
  have hk:k<u:=by omega
  rw[ZLL hk,evP]at he
  have z16:=ZRE i
  have l1:=Zbx ht z16
  have l2:=Zbx (hB k u) l1
  have i0:=ih (k+1) (m ^^^ Zat (B k u) (Zat t (zN i))) (Zat t (zN i)) (by omega) (Zcc hm l2) l1 he
  have sl:=Zc9 B u u
  have sv:(ZcS B u u).getD k 0=((B k u:Nat):Int):=by
   unfold ZcS
   rw[List.getD_eq_getElem?_getD,List.getElem?_map,List.getElem?_range hk];rfl
  have x1:gM ((t:Nat):Int) ((zN i:Nat):Int)=((Zat t (zN i):Nat):Int):=rfl
  have x2:gM ((B k u:Nat):Int) ((Zat t (zN i):Nat):Int)=((Zat (B k u) (Zat t (zN i)):Nat):Int):=rfl
  have x3:=Zb7 (r:=m) (k:=Zat (B k u) (Zat t (zN i))) (by omega) (by omega)
  have b1:=ZaY ht
  have b2:=ZaY z16
  have b3:=ZaY (hB k u)
  have b4:=ZaY l1
  refine tgo hC ZaC Zkg ?_
  simp only[Zc4,ZaF,ZaV,Int.toNat_natCast,sv,x1,x2,x3]
  simp[-List.getD_eq_getElem?_getD,hk,sl,b1,b2,b3,b4,show(k:Int)<(u:Int) by omega]at i0⊢
  exact⟨by omega,i0⟩
theorem ZN1:∀(c i:Nat),i+c=15→Ev C (Zb1 u rows (ZcS B u u) i (poX (cN B u) i)) (ZbE u rows (ZcS B u u) i (poX (cN B u) i)) (Zav 116 (.tup [.row 0 0, .bool (decide ((poX (cN B u) 15).length=u))]) (some ⟨3,1, .ints .i64 (poX (cN B u) 15)⟩)):=by
 intro c
 induction c with
 |zero=>
  intro i hc
  have:i=15:=by omega
  subst this
  refine tgo hC ZaC Zj5 ?_
  simp[-List.getD_eq_getElem?_getD,ZeV]
  omega
 |succ c ih=>
  intro i hc
  have i0:=ih (i+1) (by omega)
  rw[Zo0]at i0
  have sl:=Zc9 B u u
  have i1:=ZKV hC u hu rows hB i (by omega) (poX (cN B u) i) (by have:=Zw7 (cN B u) i;omega) _ _ i0 u 0 1 1 (by omega) (by omega) (by omega) (by rw[List.drop_zero])
  have e1:ZHo (i:Int)=((Zbm (14-i):Nat):Int):=by
   unfold ZHo gP
   rw[show ((14:Int)-(i:Int)).toNat=14-i by omega]
  have b1:=ZaY (ZbO (14-i))
  have e2:gI ((Zbm (14-i):Nat):Int)=((zN i:Nat):Int):=rfl
  refine tgo hC ZaC Zj5 ?_
  simp only[ZeV,e1,e2]
  simp[-List.getD_eq_getElem?_getD,b1,sl,show(i:Int)<15 by omega]at i1⊢
  exact⟨by omega,i1⟩
end
theorem ZxQ(s:List Int)(u:Int)(h:s.all elB=true∧s.length≤6∧0≤u∧u≤s.length):Zaj Try.prog 116 [.list (.ints .i64 s), .int .i64 u] (.tup [.list (.ints .i64 (ZmB s u.toNat)), .bool (poO s u.toNat)]) Zst:=by
 obtain⟨h1,h2,h3,h4⟩:=h
 obtain⟨U,rfl⟩:=Int.eq_ofNat_of_zero_le h3
 rw[Int.toNat_natCast]
 cases hc:poC s U with
 |none=>
  have e1:ZmB s U=[]:=by unfold ZmB;rw[hc]
  have e2:poO s U=false:=by unfold poO;rw[hc]
  rw[e1,e2]
  refine ZpF (r:=.tup [.nils, .bool false]) (fr:=none) ?_ rfl (.tup ⟨.nil _ rfl, .same _ rfl rfl,trivial⟩)
  refine start (ZtY s U) fun C hC=>tgo hC ZaC ZCa ?_
  have i6:=ZDD hC s ((s.length-U:Nat):Int) ((s.length:Nat):Int) ((s.length:Nat):Int) false (s.length-U) U (by omega) (by omega) (.tup [.nils, .bool false]) none (A:=poM s U) (refs:=List.range (s.length-U)) (rows:=pwM s U (s.length-U)) (ZtT h1 U) (ZCB _ _ _) (fun B rows hB hz=>by
   exfalso
   unfold poC poB at hc
   rw[hB]at hc
   simp only[fiZ_iff.2 hz,if_true]at hc
   cases hc) (fun _=>⟨rfl,rfl⟩)
  have i2:=ZCX hC s h1 h2 U (by omega) (by omega) _ _ i6 (s.length-U) 0 (by omega)
  simp[Zws,pwM]at i2⊢
  exact i2
 |some c=>
  have e1:ZmB s U=poX c 15:=by unfold ZmB;rw[hc]
  have e2:poO s U=decide ((poX c 15).length=U):=by unfold poO;rw[hc]
  rw[e1,e2]
  refine ZpF (r:=.tup [.row 0 0, .bool (decide ((poX c 15).length=U))]) (fr:=some ⟨3,1, .ints .i64 (poX c 15)⟩) ?_ rfl (.tup ⟨.row _ rfl rfl rfl, .same _ rfl rfl,trivial⟩)
  refine start (ZtY s U) fun C hC=>tgo hC ZaC ZCa ?_
  have i6:=ZDD hC s ((s.length-U:Nat):Int) ((s.length:Nat):Int) ((s.length:Nat):Int) false (s.length-U) U (by omega) (by omega) (.tup [.row 0 0, .bool (decide ((poX c 15).length=U))]) (some ⟨3,1, .ints .i64 (poX c 15)⟩) (A:=poM s U) (refs:=List.range (s.length-U)) (rows:=pwM s U (s.length-U)) (ZtT h1 U) (ZCB _ _ _) (fun B rows hB hz=>by
   have hbe:=(ZfV (u:=U) U 0 _ B (ZtT h1 U) (ZcZ _ _) (by omega) (fun _=>Nat.zero_le _) hB).1
   unfold poC poB at hc
   rw[hB]at hc
   simp only[fiZ_iff.2 hz,if_true,Option.some.injEq]at hc
   subst hc
   simpa[poX]using ZN1 hC U (by omega) rows hbe 15 0 (by omega)) (fun hno=>by
   exfalso
   unfold poC poB at hc
   cases hB:elA (s.length-U) U 0 (poM s U)with
   |none=>rw[hB]at hc;cases hc
   |some B=>
    rw[hB]at hc
    have:=hno B hB
    rw[←fiZ_iff]at this
    simp only[this,if_false,Bool.false_eq_true]at hc
    cases hc)
  have i2:=ZCX hC s h1 h2 U (by omega) (by omega) _ _ i6 (s.length-U) 0 (by omega)
  simp[Zws,pwM]at i2⊢
  exact i2
def k116:Ctr:=⟨116,0,fun _ a=>match a with |[.list (.ints .i64 s), .int .i64 u]=>some (decide (s.all elB=true∧s.length≤6∧0≤u∧u≤s.length), .tup [.list (.ints .i64 (ZmB s u.toNat)), .bool (poO s u.toNat)],Zst) |_=>none⟩
theorem ZHl:k116.OK Try.prog:=fun pa args r fr h=>by
 simp only[k116]at h
 split at h
 ·simp only[Option.some.injEq,Prod.mk.injEq,decide_eq_true_eq]at h
  obtain⟨h0,rfl,rfl⟩:=h
  exact ZxQ _ _ h0
 ·cases h
def Kj:List Ctr:=[k116]++Ki
theorem ZuY:Zay Try.prog Kj:=⟨ZHl,ZPK⟩
end Go.Proofs.Ytklbmkllepkjcaa
/- Paths of functions, printed by the explorer (Gx). No condition. -/
namespace Go.Proofs.Ytklbmkllepkjcaa
set_option maxRecDepth 100000
set_option linter.unusedVariables false
def ZOY(w:List Int)(h:Int):AFrame:=vF 90 56 [(0,AV.agg (.ints .i64 w)),vI 1 h] [.code a90.code] [ARes.cell 4 true 15,.tmp 5,.tmp 6]
def ZV3(w:List Int)(h:Int):List AFrame:=[(ZOY w h)]
theorem ZFF(w:List Int)(h:Int):Zal tab 90 [AV.agg (.ints .i64 w),AV.int .i64 h]=some (ZOY w h):=rfl
def Zmd(w:List Int)(h:Int)(A:Ar)(n0:Int)(l1:List Int)(n2:Int):List AFrame:=[vF 90 56 [vI 1 h,vP 2 90003,vP 4 90005,vR 7 90018,vI 19 n0,vI 20 n2] (vC ZI8 ZRC) [ARes.cell 4 true 15,.tmp 5,.tmp 6]]
def Zih(w:List Int)(h:Int)(A:Ar)(n0:Int)(l1:List Int)(n2:Int):Zaa:=[(90003,{ base:=0,blks:=[Blk.row 107 (A.len w) (Row.gen [.agg (.ints .i64 w)])] }),(90005,{ base:=0,blks:=[Blk.row 107 15 (Row.gen [.agg (.ints .i64 [0,0,0,0,0,0,0,0,0,0,0,0,0,0,0])])] }),vK 90018 l1]
abbrev Zjc(w:List Int)(h:Int)(A:Ar)(n0:Int)(l1:List Int)(n2:Int):List AFrame×Zaa:=(Zmd w h A n0 l1 n2,Zih w h A n0 l1 n2)
def Zk0(w:List Int)(A:Ar)(l3:List Int)(n4 n5:Int):List AFrame:=[vF 90 56 [vP 2 90003,vP 4 90005,vP 11 90012,vI 13 n4,vI 39 n5] (vC ZIf ZR3) [ARes.cell 4 true 15,.tmp 5,.tmp 6]]
def ZhD(w:List Int)(A:Ar)(l3:List Int)(n4 n5:Int):Zaa:=[(90003,{ base:=0,blks:=[Blk.row 107 (A.len w) (Row.gen [.agg (.ints .i64 w)])] }),(90005,{ base:=0,blks:=[Blk.row 107 15 (Row.gen [.agg (.ints .i64 [0,0,0,0,0,0,0,0,0,0,0,0,0,0,0])])] }),(90012,{ base:=0,blks:=[Blk.row 107 15 (Row.gen [.agg (.ints .i64 l3)])] })]
abbrev ZhM(w:List Int)(A:Ar)(l3:List Int)(n4 n5:Int):List AFrame×Zaa:=(Zk0 w A l3 n4 n5,ZhD w A l3 n4 n5)
def ZJw(A:Ar)(K:KT)(F:FT)(w:List Int)(h:Int):Prop:=rB [A.inR .i64 (A.add h 1),decide (okw (A.sub3 w 0 15)=true∧hfB h=true),Nat.ble 15 (A.len w),Nat.blt 0 (A.len [0,0,0,0,0,0,0,0,0,0,0,0,0,0,0]),Nat.blt 0 (A.len w)] (K (Zjc w h A (A.add h 1) (syL (A.sub3 w 0 15) (Nat.mul 2 (Int.toNat h))) 0))
theorem ZR4{A:Ar}{K:KT}{F:FT}{M:MT}{w:List Int}{h:Int} :Zah A tab Kj 90 K F M (.run 24 (.hd)) (ZV3 w h) []=ZJw A K F w h:=by kernel_rfl
def Zdx(A:Ar)(K:KT)(F:FT)(w:List Int)(h n0:Int)(l1:List Int)(n2:Int):Prop:=let u0:=A.len [0,0,0,0,0,0,0,0,0,0,0,0,0,0,0];let u1:=rB [A.inR .i64 (A.add n2 1)] (K (Zjc w h A n0 l1 (A.add n2 1)));let u2:=A.sub3 w 0 15;bB (A.lt n2 n0) (rB [decide (List.all l1 elB=true∧List.length l1≤6∧0≤n2∧n2≤ ↑(List.length l1))] (bB (A.not (poO l1 (Int.toNat n2))) u1 (rB [Nat.beq (A.len (fiV h u2 (ZmB l1 (Int.toNat n2)))) 15,Nat.blt 0 u0,decide (fiG u2 h (ZmB l1 (Int.toNat n2))=true),Nat.ble 15 (A.len w)] (bB (fiO h u2 (ZmB l1 (Int.toNat n2))) (K (ZhM w A (fiV h u2 (ZmB l1 (Int.toNat n2))) 0 0)) u1)))) (rB [Nat.beq u0 15] (rB [Zad (Zad (Nat.ble 15 u0) true) true] (F (AV.tup [AV.agg (.ints .i64 (A.sub3 [0,0,0,0,0,0,0,0,0,0,0,0,0,0,0] 0 15)),AV.int .i64 0,AV.bool false]) none)))
theorem ZnE{A:Ar}{K:KT}{F:FT}{M:MT}{w:List Int}{h n0:Int}{l1:List Int}{n2:Int} :Zah A tab Kj 90 K F M (.run 6 (.tf (.run 26 (.tf (.run 7 (.hd)) (.run 19 (.tf (.run 12 (.hd)) (.run 8 (.hd)))))) (.run 9 (.fn)))) (Zmd w h A n0 l1 n2) (Zih w h A n0 l1 n2)=Zdx A K F w h n0 l1 n2:=by kernel_rfl
def Zfz(A:Ar)(K:KT)(F:FT)(w l3:List Int)(n4 n5:Int):Prop:=let u0:=A.add n5 1;let u1:=A.sub3 l3 0 15;bB (A.lt n5 15) (rB [Nat.blt (0+A.nat n5) (A.len l3),Zad (A.le 0 n5) (A.lt n5 (A.int 15)),Nat.blt (0+A.nat n5) (A.len w),Zad (A.le 0 n5) (A.lt n5 (A.int 15))] (bB (A.not (A.eq (A.nth w (0+A.nat n5)) (A.nth l3 (0+A.nat n5)))) (rB [A.inR .i64 u0,A.inR .i64 (A.add n4 1)] (K (ZhM w A l3 (A.add n4 1) u0))) (rB [A.inR .i64 u0] (K (ZhM w A l3 n4 u0))))) (rB [Nat.beq (A.len u1) 15,Nat.ble 15 (A.len l3)] (rB [Zad (Zad (Nat.ble 15 (A.len u1)) true) true] (F (AV.tup [AV.agg (.ints .i64 (A.sub3 u1 0 15)),AV.int .i64 n4,AV.bool true]) none)))
theorem Zou{A:Ar}{K:KT}{F:FT}{M:MT}{w l3:List Int}{n4 n5:Int} :Zah A tab Kj 90 K F M (.run 6 (.tf (.run 11 (.tf (.run 12 (.hd)) (.run 8 (.hd)))) (.run 10 (.fn)))) (Zk0 w A l3 n4 n5) (ZhD w A l3 n4 n5)=Zfz A K F w l3 n4 n5:=by kernel_rfl
end Go.Proofs.Ytklbmkllepkjcaa
/- Contracts as a list. No condition. -/
namespace Go.Proofs.Ytklbmkllepkjcaa
def deR(h:Int)(w:List Int):Nat→Nat→Option (List Int)
 |0,_=>none
 |k+1,u=>if poO (syL w (2*h.toNat)) u=true∧fiO h w (ZmB (syL w (2*h.toNat)) u)=true then some (fiV h w (ZmB (syL w (2*h.toNat)) u))else deR h w k (u+1)
def deA:Option (List Int)→List Int→AV
 |none,_=>.tup [.agg (.ints .i64 (List.replicate 15 0)), .int .i64 0, .bool false]
 |some x,w=>.tup [.agg (.ints .i64 x), .int .i64 (Zbv w x), .bool true]
@[irreducible] def deO (h:Int) (w:List Int):Option (List Int):=deR h w (h.toNat+1) 0
@[irreducible] def deV (h:Int) (w:List Int):List Int:=(deO h w).getD (List.replicate 15 0)
@[irreducible] def deN (h:Int) (w:List Int):Int:=match deO h w with
 |none=>0
 |some x=>Zbv w x
theorem ZNB(h:Int)(w:List Int):deA (deO h w) w=.tup [.agg (.ints .i64 (deV h w)), .int .i64 (deN h w), .bool (deO h w).isSome]:=by
 unfold deV deN
 cases deO h w<;>rfl
theorem ZDz{w:List Int}(h:ZaM w 0 15=0)(n:Nat):(syL w n).all elB=true:=by
 unfold syL
 refine List.all_eq_true.2 fun x hx=>?_
 obtain⟨i,_,rfl⟩:=List.mem_map.1 hx
 exact ZKP h (i+1)
theorem ZNd(c:List Nat):∀(n:Nat) (p:Int),n≤15→p<0→erP p (poX c n)=0∧∀x∈poX c n,x<n:=by
 have key:∀(l:List Int) (p:Int) (x:Int),erP p l=0→(∀y∈l,y<x)→p<x→0≤x∧x≤14→erP p (l++[x])=0:=by
  intro l
  induction l with
  |nil=>
   intro p x _ _ h1 h2
   rw[List.nil_append,erP,if_pos (show Zao x 0 14=true from decide_eq_true h2),if_pos h1];rfl
  |cons y l ih=>
   intro p x h0 h1 h2 h3
   rw[erP]at h0
   split at h0
   ·rename_i hw
    split at h0
    ·rename_i hp
     rw[List.cons_append,erP,if_pos hw,if_pos hp]
     exact ih y x h0 (fun z hz=>h1 z (List.mem_cons_of_mem _ hz)) (h1 y List.mem_cons_self) h3
    ·cases h0
   ·cases h0
 intro n
 induction n with
 |zero=>intro p _ _;exact⟨by simp[poX,erP],by simp[poX]⟩
 |succ n ih=>
  intro p hn hp
  obtain⟨a,b⟩:=ih p (by omega) hp
  rw[Zo0]
  split
  ·refine⟨key _ _ _ a b (by omega) (by omega),fun x hx=>?_⟩
   rcases List.mem_append.1 hx with h |h
   ·have:=b x h;omega
   ·have:=List.mem_singleton.1 h;omega
  ·exact⟨a,fun x hx=>by have:=b x hx;omega⟩
theorem ZHJ{h:Int}{w:List Int}{u:Nat}(hw:okw w=true)(hh:hfB h=true)(hu:u≤2*h.toNat)(ho:poO (syL w (2*h.toNat)) u=true):fiG w h (ZmB (syL w (2*h.toNat)) u)=true:=by
 unfold poO at ho
 unfold ZmB
 split at ho
 ·cases ho
 ·rename_i c hc
  have hl:=of_decide_eq_true ho
  have h2:=of_decide_eq_true hh
  unfold fiG
  rw[Bool.and_eq_true,Bool.and_eq_true]
  refine⟨hw,hh,decide_eq_true ?_⟩
  unfold erE
  rw[if_neg (by omega)]
  exact(ZNd c 15 (-1) (by omega) (by omega)).1
section
variable {C:Ctx}(hC:C.P=Try.prog)(w:List Int)(h:Int)(hw:okw w=true)(hh:hfB h=true)
include hC hw
theorem ZSt(x:List Int)(hx:x.length=15):∀(c i:Nat) (n:Int),i+c=15→0≤n→n≤i→n+Zbv (w.drop i) (x.drop i)=Zbv w x→Ev C (Zk0 w std x n i) (ZhD w std x n i) (Zav 90 (deA (some x) w) none):=by
 obtain⟨w1,w2⟩:=okw_iff.1 hw
 intro c
 induction c with
 |zero=>
  intro i n hc h0 hn he
  have:i=15:=by omega
  subst this
  rw[List.drop_of_length_le (by omega)]at he
  have he:n=Zbv w x:=by simpa[Zbv]using he
  subst he
  have e1:=Zg8 hx
  refine tgo hC ZuY Zou ?_
  simp only[Zfz,e1]
  simp[-List.getD_eq_getElem?_getD,hx,deA]
 |succ c ih=>
  intro i n hc h0 hn he
  rw[ZdV (by omega),ZdV (show i<x.length by omega),Zbv]at he
  refine tgo hC ZuY Zou ?_
  by_cases hq:w.getD i 0=x.getD i 0
  ·have i0:=ih (i+1) n (by omega) h0 (by omega) (by rw[if_pos hq]at he;omega)
   simp[-List.getD_eq_getElem?_getD,Zfz,hx,w1,hq,show(i:Int)<15 by omega,show i<15 by omega]at i0⊢
   exact⟨by omega,i0⟩
  ·have i0:=ih (i+1) (n+1) (by omega) (by omega) (by omega) (by rw[if_neg hq]at he;omega)
   simp[-List.getD_eq_getElem?_getD,Zfz,hx,w1,hq,show(i:Int)<15 by omega,show i<15 by omega]at i0⊢
   exact⟨by omega,i0⟩
theorem ZPZ(hh:hfB h=true):∀(c u:Nat),(u:Int)+c=h+1→Ev C (Zmd w h std (h+1) (syL w (2*h.toNat)) u) (Zih w h std (h+1) (syL w (2*h.toNat)) u) (Zav 90 (deA (deR h w c u) w) none):=by
 obtain⟨w1,w2⟩:=okw_iff.1 hw
 have h2:=of_decide_eq_true hh
 have e1:=Zg8 w1
 intro c
 induction c with
 |zero=>
  intro u hc
  refine tgo hC ZuY ZnE ?_
  simp[-List.getD_eq_getElem?_getD,Zdx,show ¬(u:Int)<h+1 by omega,deR,deA]
 |succ c ih=>
  intro u hc
  have i0:=ih (u+1) (by omega)
  have sl:=ZeT w (2*h.toNat)
  have sg:(syL w (2*h.toNat)).all elB=true∧(syL w (2*h.toNat)).length≤6∧0≤(u:Int)∧(u:Int)≤((syL w (2*h.toNat)).length:Int):=⟨ZDz w2 _,by omega,by omega,by omega⟩
  have hlt:(u:Int)<h+1:=by omega
  refine tgo hC ZuY ZnE ?_
  rw[deR]
  generalize hs:syL w (2*h.toNat)=s at*
  cases ho:poO s u with
  |false=>
   simp only[Zdx,Int.toNat_natCast,ho,e1]
   simp[-List.getD_eq_getElem?_getD,hlt]at i0⊢
   exact⟨by simpa using sg,by omega,i0⟩
  |true=>
   have hg:=ZHJ (u:=u) hw hh (by omega) (by rw[hs];exact ho)
   rw[hs]at hg
   have vl:=Zwk (h:=h) (e:=ZmB s u) w1
   cases hf:fiO h w (ZmB s u)with
   |false=>
    simp only[Zdx,Int.toNat_natCast,ho,e1,hf]
    simp[-List.getD_eq_getElem?_getD,hlt,hg,vl,w1]at i0⊢
    exact⟨by simpa using sg,by omega,i0⟩
   |true=>
    have i1:=ZSt hC w hw (fiV h w (ZmB s u)) vl 15 0 0 (by omega) (by omega) (by omega) (by simp)
    simp only[Zdx,Int.toNat_natCast,ho,e1,hf]
    simp[-List.getD_eq_getElem?_getD,hlt,hg,vl,w1]at i1⊢
    exact⟨by simpa using sg,i1⟩
end
theorem ZBu(w:List Int)(h:Int)(hw:okw w=true)(hh:hfB h=true):Zaj Try.prog 90 [.agg (.ints .i64 w), .int .i64 h] (.tup [.agg (.ints .i64 (deV h w)), .int .i64 (deN h w), .bool (deO h w).isSome]) none:=by
 obtain⟨w1,w2⟩:=okw_iff.1 hw
 have h2:=of_decide_eq_true hh
 rw[←ZNB]
 refine start (ZFF w h) fun C hC=>tgo hC ZuY ZR4 ?_
 have i:=ZPZ hC w h hw hh (h.toNat+1) 0 (by omega)
 have e1:=Zg8 w1
 unfold deO
 simp only[ZJw,e1]
 simp[-List.getD_eq_getElem?_getD,w1,hw,hh]at i⊢
 exact⟨by omega,i⟩
def k90:Ctr:=⟨90,0,fun _ a=>match a with |[.agg (.ints .i64 w), .int .i64 h]=>some (decide (okw w=true∧hfB h=true), .tup [.agg (.ints .i64 (deV h w)), .int .i64 (deN h w), .bool (deO h w).isSome],none) |_=>none⟩
theorem ZOf:k90.OK Try.prog:=fun pa args r fr h=>by
 simp only[k90]at h
 split at h
 ·simp only[Option.some.injEq,Prod.mk.injEq,decide_eq_true_eq]at h
  obtain⟨h0,rfl,rfl⟩:=h
  exact ZBu _ _ h0.1 h0.2
 ·cases h
def Kk:List Ctr:=[k90]++Kj
theorem ZO4:Zay Try.prog Kk:=⟨ZOf,ZuY⟩
end Go.Proofs.Ytklbmkllepkjcaa
/- The bound of the sizes is a letter. No condition. -/
namespace Go.Proofs.Ytklbmkllepkjcaa
def ZaI:Nat→Nat→List (List Int)
 |0,_=>[[]]
 |z+1,f=>(List.range (15-f)).flatMap fun i=>(ZaI z (f+i+1)).map fun l=>((f+i:Nat):Int)::l
def Zrp(f z:Int):List AV:=(ZaI z.toNat f.toNat).map fun l=>.list (.ints .i64 l)
attribute [irreducible] Zrp
def seB(N:Nat)(f z:Int):Bool:=decide (0≤f∧f≤15∧0≤z∧z<N)
def k93(N:Nat):Ctr:=⟨93,0,fun _ a=>match a with |[.int .i64 f, .int .i64 z]=>some (seB N f z, .list (.big (.ints .i64) (Zrp f z)),none) |_=>none⟩
def Kn(N:Nat):List Ctr:=k93 N::Kk
end Go.Proofs.Ytklbmkllepkjcaa
/- Paths of functions, printed by the explorer (Gx). No condition. -/
namespace Go.Proofs.Ytklbmkllepkjcaa
set_option maxRecDepth 100000
set_option linter.unusedVariables false
def ZOa(f z:Int):AFrame:=vF 93 39 [vI 0 f,vI 1 z] [.code a93.code] [.tmp 4]
def ZUE(f z:Int):List AFrame:=[(ZOa f z)]
theorem Zxa(f z:Int):Zal tab 93 [AV.int .i64 f,AV.int .i64 z]=some (ZOa f z):=rfl
def Zg2(z n0:Int)(l1:List Nat)(l2:List (List Int)):List AFrame:=[vF 93 39 [vI 1 z,vR 5 93038,vI 6 n0] (vC ZKx ZQO) [.tmp 4]]
def ZfC(z n0:Int)(l1:List Nat)(l2:List (List Int)):Zaa:=[(93038,{ base:=0,blks:=[Blk.row 25 1 (Row.refs 1000093 l1)] }),(1000093,{ base:=0,blks:=[],sym:=Sym.ints 3 1 .i64 l2 })]
abbrev Zm4(z n0:Int)(l1:List Nat)(l2:List (List Int)):List AFrame×Zaa:=(Zg2 z n0 l1 l2,ZfC z n0 l1 l2)
def ZkU(z n0:Int)(x3:List AV)(n4:Int)(l5:List Nat)(l6:List (List Int)):List AFrame:=[vF 93 39 [vI 1 z,vR 5 93038,vI 6 n0,(7,AV.list (Row.big (.ints .i64) x3)),vI 8 n4] (vC ZKb ZPS) [.tmp 4]]
def ZiA(z n0:Int)(x3:List AV)(n4:Int)(l5:List Nat)(l6:List (List Int)):Zaa:=[(93038,{ base:=0,blks:=[Blk.row 25 1 (Row.refs 1000093 l5)] }),(1000093,{ base:=0,blks:=[],sym:=Sym.ints 3 1 .i64 l6 })]
abbrev ZnD(z n0:Int)(x3:List AV)(n4:Int)(l5:List Nat)(l6:List (List Int)):List AFrame×Zaa:=(ZkU z n0 x3 n4 l5 l6,ZiA z n0 x3 n4 l5 l6)
def ZGh(A:Ar)(K:KT)(F:FT)(f z:Int):Prop:=bB (A.eq z 0) (rB [List.all [AV.nils] fun x=>AV.bx x&&Nat.beq (Zag A x) 1] (F (AV.row 0 0) (some { e:=25,sz:=1,r:=Row.gen [AV.nils] }))) (K (Zm4 z f [] []))
theorem ZIy{N:Nat}{A:Ar}{K:KT}{F:FT}{M:MT}{f z:Int} :Zah A tab (Kn N) 93 K F M (.run 11 (.tf (.run 6 (.fn)) (.run 15 (.hd)))) (ZUE f z) []=ZGh A K F f z:=by kernel_rfl
def Ziw(N:Nat)(A:Ar)(K:KT)(F:FT)(z n0:Int)(l1:List Nat)(l2:List (List Int)):Prop:=let u0:=A.add n0 1;let u1:=A.sub z 1;bB (A.lt n0 15) (rB [seB N u0 u1,A.inR .i64 u1,A.inR .i64 u0] (K (ZnD z n0 (Zrp u0 u1) 0 l1 l2))) (F (AV.list (Row.gen (List.map (fun j=>AV.list (.ints .i64 (List.getD l2 j []))) l1))) none)
theorem Zns{N:Nat}{A:Ar}{K:KT}{F:FT}{M:MT}{z n0:Int}{l1:List Nat}{l2:List (List Int)} :Zah A tab (Kn N) 93 K F M (.run 7 (.tf (.run 19 (.hd)) (.run 7 (.fn)))) (Zg2 z n0 l1 l2) (ZfC z n0 l1 l2)=Ziw N A K F z n0 l1 l2:=by kernel_rfl
def Zjh(A:Ar)(K:KT)(F:FT)(z n0:Int)(x3:List AV)(n4:Int)(l5:List Nat)(l6:List (List Int)):Prop:=let u0:=A.nthA x3 (A.nat n4);bB (A.lt n4 (A.int (A.lenA x3))) (rB [A.inR .i64 (A.add n4 1),Nat.ble (A.lenF l5+A.lenF [0+List.length (List.map (fun l=>Blk.row 3 1 (.ints .i64 l)) l6)]) 4294967296,List.all [AV.row 1000093 (0+List.length (List.map (fun l=>Blk.row 3 1 (.ints .i64 l)) l6))] fun x=>AV.bx x&&Nat.beq (Zag A x) 1,Nat.ble (A.len [n0]+A.len (AV.toIs u0)) 4294967296,Zad (Zad (A.le 0 n4) (Nat.blt (A.nat n4) (A.lenA x3))) true,List.all [AV.int .i64 n0] fun x=>AV.bx x&&Nat.beq (Zag A x) 1] (K (ZnD z n0 x3 (A.add n4 1) (A.appF l5 [0+List.length (List.map (fun l=>Blk.row 3 1 (.ints .i64 l)) l6)]) (List.append l6 [A.app [n0] (AV.toIs u0)])))) (rB [A.inR .i64 (A.add n0 1)] (K (Zm4 z (A.add n0 1) l5 l6)))
theorem Zn5{N:Nat}{A:Ar}{K:KT}{F:FT}{M:MT}{z n0:Int}{x3:List AV}{n4:Int}{l5:List Nat}{l6:List (List Int)} :Zah A tab (Kn N) 93 K F M (.run 9 (.tf (.run 24 (.hd)) (.run 9 (.hd)))) (ZkU z n0 x3 n4 l5 l6) (ZiA z n0 x3 n4 l5 l6)=Zjh A K F z n0 x3 n4 l5 l6:=by kernel_rfl
end Go.Proofs.Ytklbmkllepkjcaa
/- All sets of positions. No condition. -/
namespace Go.Proofs.Ytklbmkllepkjcaa
theorem ZA1(L:List (List Int)):((List.range L.length).map fun j=>AV.list (.ints .i64 (L.getD j [])))=L.map fun l=>AV.list (.ints .i64 l):=by
 apply List.ext_getElem?
 intro i
 rw[List.getElem?_map,List.getElem?_map]
 by_cases hi:i<L.length
 ·rw[List.getElem?_range hi,List.getElem?_eq_getElem hi,Option.map_some,Option.map_some,List.getD_eq_getElem?_getD,List.getElem?_eq_getElem hi];rfl
 ·rw[List.getElem?_eq_none (by simp;omega),List.getElem?_eq_none (by omega)];rfl
def Zrg(Z f n:Nat):List (List Int):=(List.range n).flatMap fun i=>(ZaI Z (f+i+1)).map fun l=>((f+i:Nat):Int)::l
theorem ZkL(Z f n:Nat):Zrg Z f (n+1)=Zrg Z f n++(ZaI Z (f+n+1)).map fun l=>((f+n:Nat):Int)::l:=by
 unfold Zrg
 rw[List.range_succ,List.flatMap_append];simp
theorem ZtK(f z:Int):(Zrp f z).length=(ZaI z.toNat f.toNat).length:=by unfold Zrp;simp
theorem Zs0(f z:Int)(k:Nat):((Zrp f z).getD k .top).toIs=(ZaI z.toNat f.toNat).getD k []:=by
 unfold Zrp
 rw[List.getD_eq_getElem?_getD,List.getElem?_map,List.getD_eq_getElem?_getD]
 by_cases hk:k<(ZaI z.toNat f.toNat).length
 ·rw[List.getElem?_eq_getElem hk];rfl
 ·rw[List.getElem?_eq_none (by omega)];rfl
theorem Zjs:∀(Z f:Nat),(ZaI Z f).length≤15^Z∧∀l∈ZaI Z f,l.length=Z
 |0,_=>by simp[ZaI]
 |Z+1,f=>by
  have key:∀n,n≤15→(Zrg Z f n).length≤n*15^Z∧∀l∈Zrg Z f n,l.length=Z+1:=by
   intro n
   induction n with
   |zero=>intro _;simp[Zrg]
   |succ n ih=>
    intro hn
    obtain⟨a,b⟩:=ih (by omega)
    obtain⟨c,d⟩:=Zjs Z (f+n+1)
    rw[ZkL]
    refine⟨by rw[List.length_append,List.length_map,Nat.add_mul];omega,fun l hl=>?_⟩
    rcases List.mem_append.1 hl with h |h
    ·exact b l h
    ·obtain⟨y,hy,rfl⟩:=List.mem_map.1 h
     rw[List.length_cons,d y hy]
  obtain⟨a,b⟩:=key (15-f) (by omega)
  have e:ZaI (Z+1) f=Zrg Z f (15-f):=rfl
  rw[e]
  refine⟨Nat.le_trans a ?_,b⟩
  rw[Nat.pow_succ,Nat.mul_comm]
  exact Nat.mul_le_mul_left _ (by omega)
section
variable {C:Ctx}(hC:C.P=Try.prog)(N:Nat)(hK:Zay Try.prog (Kn N))
include hC hK
theorem ZRd(Z i:Nat)(hZ:Z≤2)(hi:i<15)(L:List (List Int))(hL:L.length≤100000)(r:AV)
 (hn:Ev C (Zg2 ((Z+1:Nat):Int) ((i+1:Nat):Int) (List.range (L++(ZaI Z (i+1)).map fun l=>((i:Nat):Int)::l).length) (L++(ZaI Z (i+1)).map fun l=>((i:Nat):Int)::l)) (ZfC ((Z+1:Nat):Int) ((i+1:Nat):Int) (List.range (L++(ZaI Z (i+1)).map fun l=>((i:Nat):Int)::l).length) (L++(ZaI Z (i+1)).map fun l=>((i:Nat):Int)::l)) (Zav 93 r none)):
 ∀(c k:Nat),k+c=(ZaI Z (i+1)).length→Ev C (ZkU ((Z+1:Nat):Int) i (Zrp ((i:Int)+1) (Z:Int)) k (List.range (L++((ZaI Z (i+1)).take k).map fun l=>((i:Nat):Int)::l).length) (L++((ZaI Z (i+1)).take k).map fun l=>((i:Nat):Int)::l)) (ZiA ((Z+1:Nat):Int) i (Zrp ((i:Int)+1) (Z:Int)) k (List.range (L++((ZaI Z (i+1)).take k).map fun l=>((i:Nat):Int)::l).length) (L++((ZaI Z (i+1)).take k).map fun l=>((i:Nat):Int)::l)) (Zav 93 r none):=by
 have sv:=ZtK ((i:Int)+1) (Z:Int)
 rw[Int.toNat_natCast,show((i:Int)+1).toNat=i+1 by omega]at sv
 obtain⟨s1,s2⟩:=Zjs Z (i+1)
 have hp:15^Z≤15^2:=Nat.pow_le_pow_right (by omega) hZ
 intro c
 induction c with
 |zero=>
  intro k hk
  refine tgo hC hK Zn5 ?_
  rw[List.take_of_length_le (by omega)]
  generalize (L++(ZaI Z (i+1)).map fun l=>((i:Nat):Int)::l)=M at hn⊢
  simp[-List.getD_eq_getElem?_getD,Zjh,sv,show ¬(k:Int)<((ZaI Z (i+1)).length:Int) by omega]at hn⊢
  exact⟨by omega,hn⟩
 |succ c ih=>
  intro k hk
  have hlt:k<(ZaI Z (i+1)).length:=by omega
  have i0:=ih (k+1) (by omega)
  have g:=Zs0 ((i:Int)+1) (Z:Int) k
  rw[Int.toNat_natCast,show((i:Int)+1).toNat=i+1 by omega]at g
  have tl:(ZaI Z (i+1)).take (k+1)=(ZaI Z (i+1)).take k++[(ZaI Z (i+1)).getD k []]:=Zwh hlt
  rw[tl,List.map_append,←List.append_assoc]at i0
  have ml:(L++((ZaI Z (i+1)).take k).map fun l=>((i:Nat):Int)::l).length≤200000:=by
   rw[List.length_append,List.length_map,List.length_take];omega
  have gl:((ZaI Z (i+1)).getD k []).length=Z:=s2 _ (Zbq hlt)
  generalize (L++((ZaI Z (i+1)).take k).map fun l=>((i:Nat):Int)::l)=M at i0 ml⊢
  rw[List.length_append,List.map_cons,List.map_nil,List.length_singleton,List.range_succ]at i0
  refine tgo hC hK Zn5 ?_
  simp only[Zjh,Zw9,ZaF,Int.toNat_natCast,g]
  simp[-List.getD_eq_getElem?_getD,sv,hlt,gl,AV.bx,Zag,show(k:Int)<((ZaI Z (i+1)).length:Int) by omega]at i0⊢
  exact⟨by omega,i0⟩
theorem ZRa(Z f:Nat)(hZ:Z≤2)(hN:Z<N):∀(c n:Nat),f+n+c=15→Ev C (Zg2 ((Z+1:Nat):Int) ((f+n:Nat):Int) (List.range (Zrg Z f n).length) (Zrg Z f n)) (ZfC ((Z+1:Nat):Int) ((f+n:Nat):Int) (List.range (Zrg Z f n).length) (Zrg Z f n)) (Zav 93 (.list (.gen ((ZaI (Z+1) f).map fun l=>.list (.ints .i64 l)))) none):=by
 intro c
 induction c with
 |zero=>
  intro n hc
  refine tgo hC hK Zns ?_
  have e:ZaI (Z+1) f=Zrg Z f n:=by rw[show n=15-f by omega];rfl
  rw[e]
  simp only[Ziw,ZA1]
  simp[-List.getD_eq_getElem?_getD,show ¬((f:Int)+(n:Int))<15 by omega]
 |succ c ih=>
  intro n hc
  have i0:=ih (n+1) (by omega)
  rw[ZkL,show f+(n+1)=f+n+1 by omega]at i0
  have pl:(Zrg Z f n).length≤100000:=by
   have key:∀n,n≤15→(Zrg Z f n).length≤n*225:=by
    intro n
    induction n with
    |zero=>intro _;simp[Zrg]
    |succ n ih2=>
     intro hn
     have a:=ih2 (by omega)
     obtain⟨c,_⟩:=Zjs Z (f+n+1)
     have hp:15^Z≤15^2:=Nat.pow_le_pow_right (by omega) hZ
     rw[ZkL,List.length_append,List.length_map,Nat.add_mul];omega
   have:=key n (by omega)
   omega
  have i1:=ZRd hC N hK Z (f+n) hZ (by omega) (Zrg Z f n) pl _ i0 (ZaI Z (f+n+1)).length 0 (by omega)
  have sb:seB N (((f+n:Nat):Int)+1) (((Z+1:Nat):Int)-1)=true:=decide_eq_true (by omega)
  have z1:((Z+1:Nat):Int)-1=((Z:Nat):Int):=by omega
  have hlt:((f+n:Nat):Int)<15:=by omega
  rw[z1]at sb
  refine tgo hC hK Zns ?_
  simp only[Ziw,ZcU,ZhX,z1,sb,ZBs,decide_eq_true hlt,Zu0,Zvh,if_true]
  simp only[List.take_zero,List.map_nil,List.append_nil]at i1
  exact⟨by simp;omega,i1⟩
end
theorem Zxq{f:FuncId}{args:List AV}{e sz:Nat}{r r':Row}(h:Zaj Try.prog f args (.row 0 0) (some ⟨e,sz+1,r⟩))(hp:r.pure=true)(hs:r.solid=true)(hw:∀ {w:World} {ok:Nat→Prop} {hh:Zaa} {L:Lay} {x:Value},Rel w ok hh L (.list r) x→Rel w ok hh L (.list r') x):Zaj Try.prog f args (.list r') none:=by
 intro w okA L vs hargs hok hG
 refine(h w okA L vs hargs hok hG).mono ?_
 rintro e' w' ⟨x,L',rfl,hb,hpo⟩
 refine⟨x,L',rfl,hb,?_⟩
 obtain⟨H,hr⟩:HRel (Ctx.of Try.prog w okA []) (Zas (some ⟨e,sz+1,r⟩)) L' w'∧Zaw (Ctx.of Try.prog w okA []) (Zas (some ⟨e,sz+1,r⟩)) L' w' (.row 0 0) x:=hpo
 show HRel (Ctx.of Try.prog w okA []) (Zas none) L' w'∧Zaw (Ctx.of Try.prog w okA []) (Zas none) L' w' (.list r') x
 refine⟨H.nil,?_⟩
 have q:=Zhc H (Frz1.row _ rfl hp hs) hr
 exact hw (q.okmono (fun g _ ho=>ho.elim (fun y=>y.2.elim) (fun y=>.inr y)))
theorem ZGV{w:World}{ok:Nat→Prop}{hh:Zaa}{L:Lay}{x:Value}(hr:Rel w ok hh L (.list (.gen [.nils])) x):Rel w ok hh L (.list (.big (.ints .i64) [.list (.ints .i64 [])])) x:=by
 cases hr with
 |nil _ a c h0=>cases h0
 |list _ xs hx ad n cap sz cs hb hok hn hcap hsz hl h1 hc hp hrr=>
  subst hx
  refine .list _ [.list (.ints .i64 [])] rfl ad n cap sz cs hb hok hn hcap (fun z hz=>?_) (hl.trans rfl) h1 hc rfl (fun j u v hu hv=>?_)
  ·have:=hsz .nils (by simp[Row.elems])
   have hz:z=.list (.ints .i64 []):=by simpa using hz
   subst hz;exact this
  ·cases j with
   |zero=>
    have hq:=hrr 0 .nils v rfl hv
    have hu:AV.list (.ints .i64 [])=u:=by simpa[Zaf,AV.flat]using hu
    subst hu
    cases hq with
    |nils=>exact .nil _ none 0 rfl
   |succ j=>simp[Zaf,AV.flat]at hu
theorem ZxT(f:Int):Zrp f 0=[.list (.ints .i64 [])]:=by unfold Zrp;rfl
theorem Zzk(N:Nat)(hK:Zay Try.prog (Kn N))(f z:Int)(h:seB (N+1) f z=true)(h3:z≤3):Zaj Try.prog 93 [.int .i64 f, .int .i64 z] (.list (.big (.ints .i64) (Zrp f z))) none:=by
 have h:=of_decide_eq_true h
 by_cases hz:z=0
 ·subst hz
  rw[ZxT]
  refine Zxq (r:=.gen [.nils]) (e:=25) (sz:=0) ?_ rfl rfl ZGV
  exact start (Zxa f 0) fun C hC=>tgo hC hK ZIy (by simp[ZGh,AV.bx,Zag])
 ·obtain⟨Z,hZ⟩:∃Z:Nat,z=((Z+1:Nat):Int):=⟨z.toNat-1,by omega⟩
  obtain⟨F,rfl⟩:=Int.eq_ofNat_of_zero_le h.1
  subst hZ
  have q:Zaj Try.prog 93 [.int .i64 (F:Int), .int .i64 ((Z+1:Nat):Int)] (.list (.gen ((ZaI (Z+1) F).map fun l=>.list (.ints .i64 l)))) none:=by
   refine start (Zxa _ _) fun C hC=>tgo hC hK ZIy ?_
   have i:=ZRa hC N hK Z F (by omega) (by omega) (15-F) 0 (by omega)
   simp[ZGh,Zrg,show ¬((Z:Int)+1=0) by omega]at i⊢
   exact i
  refine Zv1 q ?_
  unfold Zrp
  rw[Int.toNat_natCast,Int.toNat_natCast]
  simp only[Row.elems,List.map_map]
  exact List.map_congr_left fun _ _=>rfl
theorem ZCn:∀N:Nat,N≤4→(k93 N).OK Try.prog
 |0,_=>fun pa args r fr h=>by
  simp only[k93]at h
  split at h
  ·simp only[Option.some.injEq,Prod.mk.injEq]at h
   obtain⟨a,_⟩:=h
   have:=of_decide_eq_true a
   omega
  ·cases h
 |N+1,hN=>fun pa args r fr h=>by
  have ih:=ZCn N (by omega)
  simp only[k93]at h
  split at h
  ·simp only[Option.some.injEq,Prod.mk.injEq]at h
   obtain⟨a,rfl,rfl⟩:=h
   have b:=of_decide_eq_true a
   exact Zzk N ⟨ih,ZO4⟩ _ _ a (by omega)
  ·cases h
def Kl:List Ctr:=k93 4::Kk
theorem ZuT:Zay Try.prog Kl:=⟨ZCn 4 (Nat.le_refl _),ZO4⟩
end Go.Proofs.Ytklbmkllepkjcaa
/- Paths of functions, printed by the explorer (Gx). No condition. -/
namespace Go.Proofs.Ytklbmkllepkjcaa
set_option maxRecDepth 100000
set_option linter.unusedVariables false
def ZLZ(h:Int)(w:List Int):AFrame:=vF 44 38 [vI 0 h,vL 1 w] [.code a44.code] [.tmp 4,.tmp 5,.tmp 6]
def ZTF(h:Int)(w:List Int):List AFrame:=[(ZLZ h w)]
theorem ZGJ(h:Int)(w:List Int):Zal tab 44 [AV.int .i64 h,AV.list (.ints .i64 w)]=some (ZLZ h w):=rfl
def ZgK(h:Int)(w:List Int)(n0:Int):List AFrame:=[vF 44 38 [vI 0 h,vL 1 w,vI 7 n0] (vC ZMM ZPW) [.tmp 4,.tmp 5,.tmp 6]]
def Zfl(h:Int)(w:List Int)(n0:Int):Zaa:=[]
abbrev ZoZ(h:Int)(w:List Int)(n0:Int):List AFrame×Zaa:=(ZgK h w n0,Zfl h w n0)
def ZkP(h:Int)(w:List Int)(n0 n1:Int)(x2:List AV):List AFrame:=[vF 44 38 [vI 0 h,vL 1 w,vI 7 n0,(8,AV.list (Row.big (.ints .i64) x2)),vI 9 n1] (vC ZJQ ZRI) [.tmp 4,.tmp 5,.tmp 6]]
def Zh0(h:Int)(w:List Int)(n0 n1:Int)(x2:List AV):Zaa:=[]
abbrev ZmW(h:Int)(w:List Int)(n0 n1:Int)(x2:List AV):List AFrame×Zaa:=(ZkP h w n0 n1 x2,Zh0 h w n0 n1 x2)
def ZN6(A:Ar)(K:KT)(F:FT)(h:Int)(w:List Int):Prop:=K (ZoZ h w 0)
theorem ZSb{A:Ar}{K:KT}{F:FT}{M:MT}{h:Int}{w:List Int} :Zah A tab Kl 44 K F M (.run 14 (.hd)) (ZTF h w) []=ZN6 A K F h w:=by kernel_rfl
def ZiX(A:Ar)(K:KT)(F:FT)(h:Int)(w:List Int)(n0:Int):Prop:=bB (A.le n0 h) (rB [seB 4 0 n0] (K (ZmW h w n0 0 (Zrp 0 n0)))) (F (AV.tup [AV.nils,AV.int .i64 0,AV.bool false]) none)
theorem Znd{A:Ar}{K:KT}{F:FT}{M:MT}{h:Int}{w:List Int}{n0:Int} :Zah A tab Kl 44 K F M (.run 8 (.tf (.run 16 (.hd)) (.run 8 (.fn)))) (ZgK h w n0) (Zfl h w n0)=ZiX A K F h w n0:=by kernel_rfl
def Ze9(A:Ar)(K:KT)(F:FT)(h:Int)(w:List Int)(n0 n1:Int)(x2:List AV):Prop:=let u0:=A.nthA x2 (A.nat n1);bB (A.lt n1 (A.int (A.lenA x2))) (rB [decide (fiG w h (AV.toIs u0)=true),Zad (Zad (A.le 0 n1) (Nat.blt (A.nat n1) (A.lenA x2))) true] (bB (isW h (fiW h w (AV.toIs u0))) (F (AV.tup [AV.row 0 0,AV.int .i64 n0,AV.bool true]) (some { e:=3,sz:=1,r:=.ints .i64 (fiW h w (AV.toIs u0)) })) (rB [A.inR .i64 (A.add n1 1)] (K (ZmW h w n0 (A.add n1 1) x2))))) (rB [A.inR .i64 (A.add n0 1)] (K (ZoZ h w (A.add n0 1))))
theorem ZoQ{A:Ar}{K:KT}{F:FT}{M:MT}{h:Int}{w:List Int}{n0 n1:Int}{x2:List AV} :Zah A tab Kl 44 K F M (.run 9 (.tf (.run 23 (.tf (.run 9 (.fn)) (.run 9 (.hd)))) (.run 9 (.hd)))) (ZkP h w n0 n1 x2) (Zh0 h w n0 n1 x2)=Ze9 A K F h w n0 n1 x2:=by kernel_rfl
end Go.Proofs.Ytklbmkllepkjcaa
/- Contracts as a list. No condition. -/
namespace Go.Proofs.Ytklbmkllepkjcaa
def rd1(h:Int)(w:List Int):List (List Int)→Option (List Int)
 |[]=>none
 |l::ls=>if isW h (fiW h w l)=true then some (fiW h w l)else rd1 h w ls
def rdR(h:Int)(w:List Int):Nat→Nat→Option (List Int×Nat)
 |0,_=>none
 |k+1,z=>match rd1 h w (ZaI z 0)with
  |some x=>some (x,z)
  |none=>rdR h w k (z+1)
@[irreducible] def rdO (h:Int) (w:List Int):Option (List Int×Nat):=rdR h w (h.toNat+1) 0
def rdA:Option (List Int×Nat)→AV
 |none=>.tup [.list (.ints .i64 []), .int .i64 0, .bool false]
 |some (x,z)=>.tup [.list (.ints .i64 x), .int .i64 z, .bool true]
@[irreducible] def rdV (h:Int) (w:List Int):List Int:=match rdO h w with |none=>[] |some (x,_)=>x
@[irreducible] def rdN (h:Int) (w:List Int):Int:=match rdO h w with |none=>0 |some (_,z)=>(z:Int)
theorem ZJf(h:Int)(w:List Int):rdA (rdO h w)=.tup [.list (.ints .i64 (rdV h w)), .int .i64 (rdN h w), .bool (rdO h w).isSome]:=by
 unfold rdV rdN
 cases rdO h w with
 |none=>rfl
 |some p=>rfl
theorem Zv9:∀(Z f:Nat) (l:List Int),l∈ZaI Z f→∀p:Int,p<f→erP p l=0
 |0,_,l,hl,_,_=>by
  have:l=[]:=by simpa[ZaI]using hl
  subst this;rfl
 |Z+1,f,l,hl,p,hp=>by
  unfold ZaI at hl
  obtain⟨i,hi,hl⟩:=List.mem_flatMap.1 hl
  obtain⟨y,hy,rfl⟩:=List.mem_map.1 hl
  have hi:=List.mem_range.1 hi
  rw[erP,if_pos (show Zao ((f+i:Nat):Int) 0 14=true from decide_eq_true (by omega)),if_pos (by omega)]
  exact Zv9 Z (f+i+1) y hy _ (by omega)
theorem ZrO{h:Int}{w:List Int}(hw:okw w=true)(hh:hfB h=true){Z:Nat}(hZ:Z≤2*h.toNat){l:List Int}(hl:l∈ZaI Z 0):fiG w h l=true:=by
 have h2:=of_decide_eq_true hh
 have:=(Zjs Z 0).2 l hl
 unfold fiG
 rw[Bool.and_eq_true,Bool.and_eq_true]
 refine⟨hw,hh,decide_eq_true ?_⟩
 unfold erE
 rw[if_neg (by omega)]
 exact Zv9 Z 0 l hl _ (by omega)
section
variable {C:Ctx}(hC:C.P=Try.prog)(h:Int)(w:List Int)(hw:okw w=true)(hh:hfB h=true)
include hC hw hh
theorem ZQM(Z:Nat)(hZ:(Z:Int)≤h)(r:AV)
 (hn:rd1 h w (ZaI Z 0)=none→Ev C (ZgK h w ((Z+1:Nat):Int)) (Zfl h w ((Z+1:Nat):Int)) (ZmA 44 r)) (hf:∀x,rd1 h w (ZaI Z 0)=some x→r=rdA (some (x,Z))):
 ∀(c k:Nat),k+c=(ZaI Z 0).length→rd1 h w ((ZaI Z 0).drop k)=rd1 h w (ZaI Z 0)→Ev C (ZkP h w Z k (Zrp 0 Z)) (Zh0 h w Z k (Zrp 0 Z)) (ZmA 44 r):=by
 have h2:=of_decide_eq_true hh
 have sv:=ZtK 0 (Z:Int)
 rw[Int.toNat_natCast,show(0:Int).toNat=0 from rfl]at sv
 have sz:=(Zjs Z 0).1
 have hp:15^Z≤15^3:=Nat.pow_le_pow_right (by omega) (by omega)
 intro c
 induction c with
 |zero=>
  intro k hk he
  rw[List.drop_of_length_le (by omega)]at he
  have i0:=hn he.symm
  refine Zhv hC ZuT ZoQ ?_
  simp[-List.getD_eq_getElem?_getD,Ze9,sv,show ¬(k:Int)<((ZaI Z 0).length:Int) by omega]at i0⊢
  exact⟨by omega,i0⟩
 |succ c ih=>
  intro k hk he
  have hlt:k<(ZaI Z 0).length:=by omega
  have g:=Zs0 0 (Z:Int) k
  rw[Int.toNat_natCast,show(0:Int).toNat=0 from rfl]at g
  have dk:(ZaI Z 0).drop k=(ZaI Z 0).getD k []::(ZaI Z 0).drop (k+1):=by
   rw[List.drop_eq_getElem_cons hlt,List.getD_eq_getElem?_getD,List.getElem?_eq_getElem hlt];rfl
  rw[dk,rd1]at he
  have hg:=ZrO hw hh (Z:=Z) (by omega) (Zbq (d:=[]) hlt)
  refine Zhv hC ZuT ZoQ ?_
  by_cases hq:isW h (fiW h w ((ZaI Z 0).getD k []))=true
  ·rw[if_pos hq]at he
   have hr:=hf _ he.symm
   subst hr
   simp only[Ze9,Zw9,ZaF,Int.toNat_natCast,g]
   simp[-List.getD_eq_getElem?_getD,sv,hlt,hg,hq,rdA]
   exact⟨_, .same _, .tup ⟨.row _ rfl rfl rfl, .same _ rfl rfl, .same _ rfl rfl,trivial⟩,rfl⟩
  ·rw[if_neg hq]at he
   have i0:=ih (k+1) (by omega) he
   simp only[Ze9,Zw9,ZaF,Int.toNat_natCast,g]
   simp[-List.getD_eq_getElem?_getD,sv,hlt,hg,hq]at i0⊢
   exact⟨by omega,i0⟩
theorem ZRK:∀(c z:Nat),(z:Int)+c=h+1→Ev C (ZgK h w z) (Zfl h w z) (ZmA 44 (rdA (rdR h w c z))):=by
 have h2:=of_decide_eq_true hh
 intro c
 induction c with
 |zero=>
  intro z hz
  refine Zhv hC ZuT Znd ?_
  simp[-List.getD_eq_getElem?_getD,ZiX,rdR,rdA,show ¬(z:Int)≤h by omega]
  exact⟨_, .same _, .tup ⟨.nil _ rfl, .same _ rfl rfl, .same _ rfl rfl,trivial⟩,rfl⟩
 |succ c ih=>
  intro z hz
  have i0:=ih (z+1) (by omega)
  have i1:=ZQM hC h w hw hh z (by omega) (rdA (rdR h w (c+1) z)) (fun hn=>by rw[rdR,hn];exact i0) (fun x hx=>by rw[rdR,hx]) (ZaI z 0).length 0 (by omega) (by rw[List.drop_zero])
  have sb:seB 4 0 (z:Int)=true:=decide_eq_true (by omega)
  refine Zhv hC ZuT Znd ?_
  simp[-List.getD_eq_getElem?_getD,ZiX,sb,show(z:Int)≤h by omega]at i1⊢
  exact i1
end
theorem ZBI(h:Int)(w:List Int)(hw:okw w=true)(hh:hfB h=true):Zaj Try.prog 44 [.int .i64 h, .list (.ints .i64 w)] (.tup [.list (.ints .i64 (rdV h w)), .int .i64 (rdN h w), .bool (rdO h w).isSome]) Zst:=by
 have h2:=of_decide_eq_true hh
 rw[←ZJf]
 refine Zuh (ZGJ h w) fun C hC=>Zhv hC ZuT ZSb ?_
 have i:=ZRK hC h w hw hh (h.toNat+1) 0 (by omega)
 simp[ZN6,rdO]at i⊢
 exact i
def k44:Ctr:=⟨44,0,fun _ a=>match a with |[.int .i64 h, .list (.ints .i64 w)]=>some (decide (hfB h=true∧okw w=true), .tup [.list (.ints .i64 (rdV h w)), .int .i64 (rdN h w), .bool (rdO h w).isSome],Zst) |_=>none⟩
theorem ZKl:k44.OK Try.prog:=fun pa args r fr h=>by
 simp only[k44]at h
 split at h
 ·simp only[Option.some.injEq,Prod.mk.injEq,decide_eq_true_eq]at h
  obtain⟨h0,rfl,rfl⟩:=h
  exact ZBI _ _ h0.2 h0.1
 ·cases h
def Km:List Ctr:=[k44]++Kl
theorem ZAw:Zay Try.prog Km:=⟨ZKl,ZuT⟩
end Go.Proofs.Ytklbmkllepkjcaa
