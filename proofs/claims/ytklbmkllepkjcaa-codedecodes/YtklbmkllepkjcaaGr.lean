/- Contracts as a list. No condition. -/
import Derived.Test.YtklbmkllepkjcaaGw
import Derived.KernelRfl
namespace Go.Proofs.Ytklbmkllepkjcaa
section
variable {C:Ctx}(hC:C.P=Try.prog)(h:Int)(e l1:List Int)(R:Nat)(hR:R≤100)(hu:e.length≤100)(r:AV)(fr:Option Fresh)
include hC hR hu
theorem ZHh{k i:Nat}(hk:k<R)(hi:i<R)(hik:i≠k){refs:List Nat}{A:Mat}(hA:ElM A)
 (hn:∀rows,St R e.length refs rows (fun i' j=>if i'=i then A i j ^^^ Zar (A k j) (A i k)else A i' j)→Ev C (ZdS h e l1 k refs ((i+1:Nat):Int) rows) (Zc3 h e l1 k refs ((i+1:Nat):Int) rows) (ZaL 46 r fr)):
 ∀(c n:Nat) (rows:List (List Int)),n+c=e.length+1→St R e.length refs rows (fun i' j=>if i'=i∧j<n then A i j ^^^ Zar (A k j) (A i k)else A i' j)→Ev C (Zih h e l1 k refs i ((A i k:Nat):Int) n rows) (ZgQ h e l1 k refs i ((A i k:Nat):Int) n rows) (ZaL 46 r fr):=by
 intro c
 induction c with
 |zero=>
  intro n rows hc hs
  have i0:=hn rows (hs.congr fun a b _ hb=>by by_cases h:a=i<;>simp[h,show b<n by omega])
  refine tgo hC Zay ZjC ?_
  simp[Zg3,show ¬(n:Int)≤(e.length:Int) by omega]at i0⊢
  exact⟨by omega,i0⟩
 |succ c ih=>
  intro n rows hc hs
  have hnu:n<e.length+1:=by omega
  have e1:rows.getD (refs.getD i 0) []=Zbw e.length (fun j=>if j<n then A i j ^^^ Zar (A k j) (A i k)else A i j):=by rw[hs.v i hi];exact ZaH fun j _=>by simp
  have e2:rows.getD (refs.getD k 0) []=Zbw e.length (A k):=by rw[hs.v k hk];exact ZaH fun j _=>by rw[if_neg (fun e=>hik e.1.symm)]
  have q1:=hs.l i hi
  have q2:=hs.l k hk
  have q3:=hs.n
  have x1:=Zbl (hA k n) (hA i k)
  have s1:=hs.setcell hi n (A i n ^^^ Zar (A k n) (A i k))
  have i0:=ih (n+1) _ (by omega) (s1.congr fun a b _ hb=>by
   by_cases ha:a=i
   ·by_cases hb2:b=n
    ·simp[ha,hb2]
    ·have:b<n+1↔b<n:=by omega
     simp[ha,hb2,this]
   ·simp[ha])
  have g1:(Zbw e.length (fun j=>if j<n then A i j ^^^ Zar (A k j) (A i k)else A i j)).getD n 0=((A i n:Nat):Int):=by rw[ZaF _ hnu];simp
  have g2:(Zbw e.length (A k)).getD n 0=((A k n:Nat):Int):=ZaF _ hnu
  have x2:=ZbS (r:=A i n) (k:=Zar (A k n) (A i k)) (by have:=hA i n;omega) (by omega)
  have x3:gM ((A i k:Nat):Int) ((A k n:Nat):Int)=((Zar (A k n) (A i k):Nat):Int):=by rw[Za7 (hA k n) (hA i k)];rfl
  have b1:=ZaR (hA k n)
  have b2:=ZaR (hA i k)
  have r1:=ZaG e.length (fun j=>if j<n then A i j ^^^ Zar (A k j) (A i k)else A i j)
  have r2:=ZaG e.length (A k)
  refine tgo hC Zay ZjC ?_
  simp only[Zg3,ZaX,ZaK,ZaO,Int.toNat_natCast,e1,e2,Zbb,g1,g2,x3,x2,ZqQ,Nat.sub_zero]
  simp only[ZbE,r1,r2,q3]
  simp[-List.getD_eq_getElem?_getD,q1,q2,hk,hi,hnu,b1,b2,show(n:Int)≤(e.length:Int) by omega]at i0⊢
  exact⟨by omega,i0⟩
theorem ZFU{k:Nat}(hk:k<R){refs:List Nat}{A:Mat}(hA:ElM A)
 (hn:∀rows,St R e.length refs rows (Zfh A k)→Ev C (ZdG h e l1 ((k+1:Nat):Int) refs rows) (ZcZ h e l1 ((k+1:Nat):Int) refs rows) (ZaL 46 r fr)) (hku:k<e.length):
 ∀(c i:Nat) (rows:List (List Int)),i+c=R→St R e.length refs rows (fun i' j=>if i'<i then Zfh A k i' j else A i' j)→Ev C (ZdS h e l1 k refs i rows) (Zc3 h e l1 k refs i rows) (ZaL 46 r fr):=by
 intro c
 induction c with
 |zero=>
  intro i rows hc hs
  have i0:=hn rows (hs.congr fun a b ha _=>by rw[if_pos (by omega)])
  have q3:=hs.n
  refine tgo hC Zay Zk5 ?_
  simp[-List.getD_eq_getElem?_getD,Zee,q3,show ¬(i:Int)<R by omega]at i0⊢
  exact⟨by omega,i0⟩
 |succ c ih=>
  intro i rows hc hs
  have hi:i<R:=by omega
  have e1:rows.getD (refs.getD i 0) []=Zbw e.length (A i):=by rw[hs.v i hi];exact ZaH fun j _=>by rw[if_neg (Nat.lt_irrefl i)]
  have q1:=hs.l i hi
  have q3:=hs.n
  have g1:(Zbw e.length (A i)).getD k 0=((A i k:Nat):Int):=ZaF _ (by omega)
  have r1:=ZaG e.length (A i)
  refine tgo hC Zay Zk5 ?_
  by_cases hik:i=k
  ·have i0:=ih (i+1) rows (by omega) (hs.congr fun a b _ _=>by
    by_cases ha:a<i
    ·rw[if_pos ha,if_pos (by omega)]
    ·rw[if_neg ha]
     by_cases ha2:a<i+1
     ·have:a=k:=by omega
      rw[if_pos ha2,this,Zfh,if_pos rfl]
     ·rw[if_neg ha2])
   simp only[Zee,ZaX,ZaK,ZaO,Int.toNat_natCast,e1,Zbb,g1]
   simp only[ZbE,r1,q3]
   subst hik
   simp[-List.getD_eq_getElem?_getD,q1,hk,show i<e.length+1 by omega]at i0⊢
   exact⟨by omega,i0⟩
  ·have i0:=ZHh hC h e l1 R hR hu r fr (k:=k) (i:=i) hk hi hik (refs:=refs) (A:=fun i' j=>if i'<i then Zfh A k i' j else A i' j) (fun a b=>by
    show(if a<i then Zfh A k a b else A a b)<16
    split
    ·exact ZoI hA k a b
    ·exact hA a b) (fun rows2 hs2=>ih (i+1) rows2 (by omega) (hs2.congr fun a b ha hb=>by
     by_cases hai:a=i
     ·subst hai
      simp only[if_true,Nat.lt_irrefl,if_false,Nat.lt_add_one,Zfh,hik]
      by_cases hka:k<a<;>simp[hka]
     ·rw[if_neg hai]
      by_cases ha2:a<i
      ·rw[if_pos ha2,if_pos (by omega)]
      ·rw[if_neg ha2,if_neg (by omega)])) (e.length+1) 0 rows (by omega) (hs.congr fun a b _ _=>by simp)
   rw[if_neg (Nat.lt_irrefl i)]at i0
   simp only[Zee,ZaX,ZaK,ZaO,Int.toNat_natCast,e1,Zbb,g1]
   simp only[ZbE,r1,q3]
   have hik':¬(i:Int)=k:=by omega
   simp[-List.getD_eq_getElem?_getD,q1,hi,show k<e.length+1 by omega,show(i:Int)<R by omega,hik',hik]at i0⊢
   exact i0
theorem ZHE{k:Nat}(hk:k<R){refs:List Nat}{A:Mat}(hA:ElM A){c0:Nat}(hc0:c0<16)
 (hn:∀rows,St R e.length refs rows (Zbu A k c0)→Ev C (ZdS h e l1 k refs 0 rows) (Zc3 h e l1 k refs 0 rows) (ZaL 46 r fr)):
 ∀(c n:Nat) (rows:List (List Int)),n+c=e.length+1→St R e.length refs rows (fun i' j=>if i'=k∧j<n then Zar (A k j) c0 else A i' j)→Ev C (ZfP h e l1 k ((c0:Nat):Int) refs n rows) (Zey h e l1 k ((c0:Nat):Int) refs n rows) (ZaL 46 r fr):=by
 have _:=hR
 intro c
 induction c with
 |zero=>
  intro n rows hc hs
  have i0:=hn rows (hs.congr fun a b _ hb=>by
   unfold Zbu
   by_cases h:a=k
   ·simp[h,show b<n by omega]
   ·simp[h])
  refine tgo hC Zay ZjZ ?_
  simp[-List.getD_eq_getElem?_getD,ZgU,show ¬(n:Int)≤(e.length:Int) by omega]at i0⊢
  exact i0
 |succ c ih=>
  intro n rows hc hs
  have hnu:n<e.length+1:=by omega
  have e2:rows.getD (refs.getD k 0) []=Zbw e.length (fun j=>if j<n then Zar (A k j) c0 else A k j):=by rw[hs.v k hk];exact ZaH fun j _=>by simp
  have q2:=hs.l k hk
  have q3:=hs.n
  have s1:=hs.setcell hk n (Zar (A k n) c0)
  have i0:=ih (n+1) _ (by omega) (s1.congr fun a b _ hb=>by
   by_cases ha:a=k
   ·by_cases hb2:b=n
    ·simp[ha,hb2]
    ·have:b<n+1↔b<n:=by omega
     simp[ha,hb2,this]
   ·simp[ha])
  have g2:(Zbw e.length (fun j=>if j<n then Zar (A k j) c0 else A k j)).getD n 0=((A k n:Nat):Int):=by rw[ZaF _ hnu];simp
  have x3:gM ((A k n:Nat):Int) ((c0:Nat):Int)=((Zar (A k n) c0:Nat):Int):=rfl
  have b1:=ZaR (hA k n)
  have b2:=ZaR hc0
  have r2:=ZaG e.length (fun j=>if j<n then Zar (A k j) c0 else A k j)
  refine tgo hC Zay ZjZ ?_
  simp only[ZgU,ZaX,ZaK,ZaO,Int.toNat_natCast,e2,Zbb,g2,x3,ZqQ,Nat.sub_zero]
  simp only[ZbE,r2,q3]
  simp[-List.getD_eq_getElem?_getD,q2,hk,hnu,b1,b2,show(n:Int)≤(e.length:Int) by omega]at i0⊢
  exact⟨by omega,i0⟩
theorem ZIh{k:Nat}(hku:k<e.length){refs:List Nat}{rows:List (List Int)}{A:Mat}(hA:ElM A)(hs:St R e.length refs rows A)(hk:k<R){p:Nat}
 (h1:Ev C (ZfP h e l1 k ((ZfA (ZaQ A k p k k):Nat):Int) ((refs.set k (refs.getD p 0)).set p (refs.getD k 0)) 0 rows) (Zey h e l1 k ((ZfA (ZaQ A k p k k):Nat):Int) ((refs.set k (refs.getD p 0)).set p (refs.getD k 0)) 0 rows) (ZaL 46 r fr)):
 ∀(c i:Nat),i+c=R→piv A k c i=some p→Ev C (Zjl h e l1 k refs rows i) (Zf1 h e l1 k refs rows i) (ZaL 46 r fr):=by
 have _:=hu
 intro c
 induction c with
 |zero=>intro i _ hp;cases hp
 |succ c ih=>
  intro i hc hp
  have hi:i<R:=by omega
  have e1:=hs.v i hi
  have q1:=hs.l i hi
  have q3:=hs.n
  have g1:(Zbw e.length (A i)).getD k 0=((A i k:Nat):Int):=ZaF _ (by omega)
  have r1:=ZaG e.length (A i)
  refine tgo hC Zay ZqY ?_
  rw[piv]at hp
  by_cases h0:A i k=0
  ·rw[if_pos h0]at hp
   have i0:=ih (i+1) (by omega) hp
   simp only[ZgN,ZaX,ZaK,ZaO,Int.toNat_natCast,e1,Zbb,g1,h0]
   simp only[ZbE,r1,q3]
   simp[-List.getD_eq_getElem?_getD,q1,hi,show k<e.length+1 by omega]at i0⊢
   exact⟨by omega,i0⟩
  ·rw[if_neg h0]at hp
   cases hp
   have hs':=hs.swap hk hi
   obtain⟨refs',hr'⟩:∃x,x=(refs.set k (refs.getD p 0)).set p (refs.getD k 0):=⟨_,rfl⟩
   rw[←hr']at hs' h1
   have e2:=hs'.v k hk
   have q4:=hs'.l k hk
   have q5:=hs'.n
   have sk:ZaQ A k p k k=A p k:=by simp[ZaQ]
   have g2:(Zbw e.length (ZaQ A k p k)).getD k 0=((A p k:Nat):Int):=by rw[ZaF _ (by omega),sk]
   have r2:=ZaG e.length (ZaQ A k p k)
   have b1:=ZaR (hA p k)
   have h0':¬((A p k:Nat):Int)=0:=by omega
   rw[sk]at h1
   have x1:gI ((A p k:Nat):Int)=((ZfA (A p k):Nat):Int):=rfl
   simp only[ZgN,ZaX,ZaK,ZsM,ZaO,Int.toNat_natCast,e1,Zbb,g1,←hr',e2,g2,x1]
   simp only[ZbE,ZlC,r1,r2,q3,q5]
   simp[-List.getD_eq_getElem?_getD,q1,q4,hi,hk,h0',h0,b1,List.length_set,q3,show k<e.length+1 by omega]at h1⊢
   exact h1
theorem ZGS:∀(c k:Nat) (A B:Mat) (refs:List Nat) (rows:List (List Int)),k+c=e.length→ElM A→St R e.length refs rows A→elA R c k A=some B→(∀refs rows,St R e.length refs rows B→Ev C (Zfq h e refs rows 0 l1) (Zej h e refs rows 0 l1) (ZaL 46 r fr))→Ev C (ZdG h e l1 k refs rows) (ZcZ h e l1 k refs rows) (ZaL 46 r fr):=by
 intro c
 induction c with
 |zero=>
  intro k A B refs rows hc hA hs hB h1
  cases hB
  have i0:=h1 refs rows hs
  refine tgo hC Zay Zla ?_
  simp[-List.getD_eq_getElem?_getD,ZgB,show ¬(k:Int)<(e.length:Int) by omega]at i0⊢
  exact i0
 |succ c ih=>
  intro k A B refs rows hc hA hs hB h1
  refine tgo hC Zay Zla ?_
  rw[elA]at hB
  split at hB
  ·cases hB
  ·rename_i p hp
   obtain⟨s1,s2,s3,s4,s5,s6,s7⟩:=Zcv hA hp
   have i0:=ZIh hC h e l1 R hR hu r fr (k:=k) (by omega) hA hs s2 (ZHE hC h e l1 R hR hu r fr s2 (ZcI hA k p) s5 (fun rows2 hs2=>
    ZFU hC h e l1 R hR hu r fr s2 (ZeE (ZcI hA k p) k s5) (fun rows3 hs3=>ih (k+1) (Zi1 A k p) B _ rows3 (by omega) s1 hs3 hB h1) (by omega) R 0 rows2 (by omega) (hs2.congr fun a b _ _=>by simp)) (e.length+1) 0 rows (by omega) ((hs.swap s2 s3).congr fun a b _ _=>by simp)) (R-k) k (by omega) hp
   simp[-List.getD_eq_getElem?_getD,ZgB,show(k:Int)<(e.length:Int) by omega]at i0⊢
   exact i0
end
@[irreducible] def fiW (h:Int) (w e:List Int):List Int:=match fiB h w e with
 |none=>zrL w e
 |some B=>wrL (zrL w e) e (Zcl B e.length e.length)
theorem Zos{B:Mat}(hB:ElM B)(u n j:Nat):elB ((Zcl B u n).getD j 0)=true:=by
 unfold Zcl
 by_cases hj:j<n
 ·rw[List.getD_eq_getElem?_getD,List.getElem?_map,List.getElem?_range hj];exact ZaR (hB j u)
 ·rw[List.getD_eq_getElem?_getD,List.getElem?_eq_none (by simp;omega)];rfl
theorem ZrV:∀(e vs w:List Int),Zcs w 0 15=0→(∀j,elB (vs.getD j 0)=true)→Zcs (wrL w e vs) 0 15=0
 |[],_,_,h,_=>by unfold wrL;exact h
 |_::_,[],_,h,_=>by unfold wrL;exact h
 |x::e,v::vs,w,h,hv=>by
  rw[wrL]
  exact ZrV e vs _ (Zop h _ (hv 0)) (fun j=>hv (j+1))
theorem Zp5{h:Int}{w e:List Int}{B:Mat}(hg:fiG w h e=true)(hB:fiB h w e=some B):ElM B∧Red B (2*h.toNat) e.length∧e.length≤2*h.toNat∧∀y,El y→(ZA B (2*h.toNat) e.length y↔ZA (fiM (zrL w e) e) (2*h.toNat) e.length y):=by
 obtain⟨g1,g2,g3,g4,g5⟩:=ZhA hg
 obtain⟨z2,z3⟩:=okw_iff.1 (ZiK e g1)
 exact Ze6 (u:=e.length) e.length 0 _ B (Zm0 z3 e) (Zcy _ _) (by omega) (fun _=>Nat.zero_le _) hB
theorem Zj8{h:Int}{w e:List Int}(hg:fiG w h e=true):okw (fiW h w e)=true:=by
 obtain⟨g1,g2,g3,g4,g5⟩:=ZhA hg
 obtain⟨z2,z3⟩:=okw_iff.1 (ZiK e g1)
 obtain⟨B,hB⟩:=ZlK hg
 have b:=(Zp5 hg hB).1
 unfold fiW
 rw[hB]
 exact okw_iff.2 ⟨by rw[Ziq,z2],ZrV _ _ _ z3 (fun j=>Zos b _ _ j)⟩
section
variable {C:Ctx}(hC:C.P=Try.prog)(h:Int)(e:List Int)(he:ZAy e)(hel:e.length≤6)
include hC he hel
theorem ZGQ(hh:hfB h=true){R:Nat}{refs:List Nat}{rows:List (List Int)}{B:Mat}(hs:St R e.length refs rows B)(huR:e.length≤R)(l:List Int)(hl:okw l=true):∀(c i:Nat) (l2:List Int),i+c=e.length→l2.length=15→wrL l2 (e.drop i) ((Zcl B e.length e.length).drop i)=l→Ev C (Zfq h e refs rows i l2) (Zej h e refs rows i l2) (ZaL 46 (.tup [.row 0 0, .bool (isW h l)]) (some ⟨3,1, .ints .i64 l⟩)):=by
 intro c
 induction c with
 |zero=>
  intro i l2 hc h2 hq
  rw[List.drop_of_length_le (by omega)]at hq
  have hq:l2=l:=by unfold wrL at hq;exact hq
  subst hq
  refine tgo hC Zay Zj0 ?_
  simp[-List.getD_eq_getElem?_getD,Zge,hl,hh,show ¬(i:Int)<(e.length:Int) by omega]
 |succ c ih=>
  intro i l2 hc h2 hq
  have hi:i<e.length:=by omega
  have sl:=ZcB B e.length e.length
  have sv:(Zcl B e.length e.length).getD i 0=((B i e.length:Nat):Int):=by
   unfold Zcl
   rw[List.getD_eq_getElem?_getD,List.getElem?_map,List.getElem?_range hi];rfl
  rw[ZeF hi,ZeF (show i<(Zcl B e.length e.length).length by omega),wrL,sv]at hq
  have i0:=ih (i+1) (l2.set (e.getD i 0).toNat ((B i e.length:Nat):Int)) (by omega) (by simp[h2]) hq
  obtain⟨p1,p2⟩:=he i hi
  have e1:=hs.v i (by omega)
  have q1:=hs.l i (by omega)
  have q3:=hs.n
  have g1:(Zbw e.length (B i)).getD e.length 0=((B i e.length:Nat):Int):=ZaF _ (by omega)
  have r1:=ZaG e.length (B i)
  refine tgo hC Zay Zj0 ?_
  simp only[Zge,ZaX,ZaK,ZaO,ZlC,ZbE,Int.toNat_natCast,e1,Zbb,g1]
  simp only[r1,q3]
  simp[-List.getD_eq_getElem?_getD,q1,hi,h2,p1,show i<R by omega,show(i:Int)<(e.length:Int) by omega]at i0⊢
  refine⟨?_,i0⟩
  omega
theorem ZHf(l1 l2:List Int)(j:Nat)(hj:j≤100)(hsy:l2.getD j 0=syI l1 (j+1))(hjl:j<l2.length)(l6:List Nat)(l7:List (List Int))(h6:l6.length≤1000)(r:AV)(fr:Option Fresh)
 (hn:Ev C (Zd3 h e l1 l2 ((j+1+1:Nat):Int) (l6++[l7.length]) (l7++[Zbw e.length (fiM l1 e j)])) (Zc5 h e l1 l2 ((j+1+1:Nat):Int) (l6++[l7.length]) (l7++[Zbw e.length (fiM l1 e j)])) (ZaL 46 r fr)):
 ∀(c i:Nat),i+c=e.length→Ev C (Ziu h e l1 l2 ((j+1:Nat):Int) l6 l7 i (rwP e j i)) (ZfZ h e l1 l2 ((j+1:Nat):Int) l6 l7 i (rwP e j i)) (ZaL 46 r fr):=by
 intro c
 induction c with
 |zero=>
  intro i hc
  refine tgo hC Zay Zks ?_
  have q:=Zlt e j i
  have k1:(((j+1:Nat):Int)-1).toNat=j:=by omega
  rw[←Zsk,←show i=e.length by omega,←hsy]at hn
  simp only[ZgS,ZmU,ZaO,Zbb,k1]
  simp[-List.getD_eq_getElem?_getD,hjl,show ¬(i:Int)<(e.length:Int) by omega,q,AV.bx,Zag]at hn⊢
  exact⟨by omega,hn⟩
 |succ c ih=>
  intro i hc
  have i0:=ih (i+1) (by omega)
  have hi:i<e.length:=by omega
  obtain⟨p1,p2⟩:=he i hi
  obtain⟨x,hx⟩:=Int.eq_ofNat_of_zero_le p1
  have q:=Zlt e j i
  have m0:((j+1:Nat):Int)*(14-(x:Int))=(((j+1)*(14-x):Nat):Int):=by rw[Int.natCast_mul];congr 1;omega
  have m1:(j+1)*(14-x)≤101*14:=Nat.mul_le_mul (by omega) (by omega)
  have mt:((((j+1)*(14-x):Nat):Int)).tmod 15=(((j+1)*(14-x)%15:Nat):Int):=rfl
  have e1:gP (((j+1)*(14-x)%15:Nat):Int)=((Zbe ((j+1)*(14-x)):Nat):Int):=by rw[ZpK ((j+1)*(14-x))];rfl
  rw[ZoF,hx,Int.toNat_natCast]at i0
  refine tgo hC Zay Zks ?_
  simp only[ZgS,Zbb,ZaO,ZtU,ZlT,ZmU,ZyK,Int.toNat_natCast,hx,m0,mt,e1]
  generalize (j+1)*(14-x)=y at m1 i0⊢
  simp[-List.getD_eq_getElem?_getD,hi,q,AV.bx,Zag]at i0⊢
  refine⟨?_,i0⟩
  omega
theorem ZIb(hh:1≤h∧h≤3)(l1:List Int)(R:Nat)(hR:(R:Int)=2*h)(r:AV)(fr:Option Fresh)
 (hn:Ev C (ZdG h e l1 0 (List.range R) (rwM l1 e R)) (ZcZ h e l1 0 (List.range R) (rwM l1 e R)) (ZaL 46 r fr)):
 ∀(c j:Nat),j+c=R→Ev C (Zd3 h e l1 (syL l1 R) ((j+1:Nat):Int) (List.range j) (rwM l1 e j)) (Zc5 h e l1 (syL l1 R) ((j+1:Nat):Int) (List.range j) (rwM l1 e j)) (ZaL 46 r fr):=by
 intro c
 induction c with
 |zero=>
  intro j hc
  refine tgo hC Zay ZkT ?_
  rw[show j=R by omega]
  simp[-List.getD_eq_getElem?_getD,Zf2,show ¬(R:Int)+1≤2*h by omega]at hn⊢
  exact⟨by omega,hn⟩
 |succ c ih=>
  intro j hc
  have i0:=ih (j+1) (by omega)
  have q:=Znu l1 e j
  rw[ZoR,List.range_succ]at i0
  have sj:(syL l1 R).getD j 0=syI l1 (j+1):=by
   unfold syL
   rw[List.getD_eq_getElem?_getD,List.getElem?_map,List.getElem?_range (by omega)];rfl
  have sl:=Zd7 l1 R
  have i1:=ZHf hC h e he hel l1 (syL l1 R) j (by omega) sj (by omega) (List.range j) (rwM l1 e j) (by simp;omega) r fr (by rw[q];exact i0) e.length 0 (by omega)
  refine tgo hC Zay ZkT ?_
  simp[-List.getD_eq_getElem?_getD,Zf2,show(j:Int)+1≤2*h by omega,rwP]at i1⊢
  exact⟨by omega,i1⟩
theorem ZG3(hh:hfB h=true)(z:List Int)(r:AV)(fr:Option Fresh)
 (hn:Ev C (Zd3 h e z (syL z (2*h.toNat)) 1 [] []) (Zc5 h e z (syL z (2*h.toNat)) 1 [] []) (ZaL 46 r fr)) (hok:okw z=true):
 ∀(c i:Nat) (l2:List Int),i+c=e.length→l2.length=15→zrL l2 (e.drop i)=z→Ev C (Zh6 h e i l2) (Zgd h e i l2) (ZaL 46 r fr):=by
 intro c
 induction c with
 |zero=>
  intro i l2 hc h2 hq
  rw[List.drop_of_length_le (by omega),zrL]at hq
  subst hq
  refine tgo hC Zay Zk2 ?_
  simp[-List.getD_eq_getElem?_getD,ZgT,hok,hh,show ¬(i:Int)<(e.length:Int) by omega]at hn⊢
  exact hn
 |succ c ih=>
  intro i l2 hc h2 hq
  have hi:i<e.length:=by omega
  rw[ZeF hi,zrL]at hq
  have i0:=ih (i+1) (l2.set (e.getD i 0).toNat 0) (by omega) (by simp[h2]) hq
  obtain⟨p1,p2⟩:=he i hi
  refine tgo hC Zay Zk2 ?_
  simp[-List.getD_eq_getElem?_getD,ZgT,hi,h2,p1,show(i:Int)<(e.length:Int) by omega]at i0⊢
  refine⟨?_,i0⟩
  omega
end
theorem Zsv(h:Int)(w e:List Int)(hg:fiG w h e=true):Zai Try.prog 46 [.int .i64 h, .list (.ints .i64 w), .list (.ints .i64 e)] (.tup [.row 0 0, .bool (isW h (fiW h w e))]) (some ⟨3,1, .ints .i64 (fiW h w e)⟩):=by
 obtain⟨g1,g2,g3,g4,_⟩:=ZhA hg
 obtain⟨w1,w2⟩:=okw_iff.1 g1
 have z1:=ZiK e g1
 obtain⟨z2,z3⟩:=okw_iff.1 z1
 have hh:hfB h=true:=decide_eq_true g2
 have hel:e.length≤6:=by omega
 obtain⟨B,hB⟩:=ZlK hg
 obtain⟨b1,b2,b3,b4⟩:=Zp5 hg hB
 have hv:fiW h w e=wrL (zrL w e) e (Zcl B e.length e.length):=by unfold fiW;rw[hB]
 refine start (Zya h w e) fun C hC=>tgo hC Zay ZIp ?_
 have i0:=ZGS hC h e (zrL w e) (2*h.toNat) (by omega) (by omega) (.tup [.row 0 0, .bool (isW h (fiW h w e))]) (some ⟨3,1, .ints .i64 (fiW h w e)⟩) e.length 0 _ B (List.range (2*h.toNat)) (rwM (zrL w e) e (2*h.toNat)) (by omega) (Zm0 z3 e) (Zxk _ _ _) hB (fun refs rows hs=>
  ZGQ hC h e g4 hel hh hs b3 (fiW h w e) (Zj8 hg) e.length 0 (zrL w e) (by omega) z2 (by rw[List.drop_zero,List.drop_zero,hv]))
 have i1:=ZIb hC h e g4 hel g2 (zrL w e) (2*h.toNat) (by omega) _ _ i0 (2*h.toNat) 0 (by omega)
 have i2:=ZG3 hC h e g4 hel hh (zrL w e) (.tup [.row 0 0, .bool (isW h (fiW h w e))]) (some ⟨3,1, .ints .i64 (fiW h w e)⟩) (by simpa[rwM]using i1) z1 e.length 0 w (by omega) w1 (by rw[List.drop_zero])
 simp[ZEP,w1]at i2⊢
 exact i2
def k46:Ctr:=⟨46,0,fun _ a=>match a with |[.int .i64 h, .list (.ints .i64 w), .list (.ints .i64 e)]=>some (decide (fiG w h e=true), .tup [.row 0 0, .bool (isW h (fiW h w e))],some ⟨3,1, .ints .i64 (fiW h w e)⟩) |_=>none⟩
theorem ZCE:k46.OK Try.prog:=fun pa args r fr h=>by
 simp only[k46]at h
 split at h
 ·simp only[Option.some.injEq,Prod.mk.injEq,decide_eq_true_eq]at h
  obtain⟨h0,rfl,rfl⟩:=h
  exact Zsv _ _ _ h0
 ·cases h
def Kh:List Ctr:=[k46]++Kg
theorem ZHc:Zaz Try.prog Kh:=⟨ZCE,ZHt⟩
end Go.Proofs.Ytklbmkllepkjcaa
/- Contracts as a list. No condition. -/
namespace Go.Proofs.Ytklbmkllepkjcaa
def daB(h:Int)(d:List Int):Bool:=hfB h&&decide (elE d (15-2*h)=0)
theorem ZoA{h:Int}{w e:List Int}(hw:w.length=15):(fiV h w e).length=15:=by
 unfold fiV
 split
 ·simp
 ·split
  ·rw[Ziq,Zny,hw]
  ·simp
section
variable {C:Ctx}(hC:C.P=Try.prog)(h:Int)(d:List Int)(g:daB h d=true)
include hC g
end
def Ki:List Ctr:=Kh
theorem ZHz:Zaz Try.prog Ki:=ZHc
end Go.Proofs.Ytklbmkllepkjcaa
/- Contracts as a list. No condition. -/
namespace Go.Proofs.Ytklbmkllepkjcaa
def poM(s:List Int)(u:Nat):Mat:=fun j i=>if i<u then(s.getD (j+u-(i+1)) 0).toNat else if i=u then(s.getD (j+u) 0).toNat else 0
def evP(z:Nat):Nat→Nat→List Nat→Nat
 |m,_,[]=>m
 |m,t,a::l=>evP z (m ^^^ Zar a (Zar t z)) (Zar t z) l
def zN(i:Nat):Nat:=ZfA (Zbe (14-i))
def cN(B:Mat)(u:Nat):List Nat:=(List.range u).map fun j=>B j u
def poX(c:List Nat)(n:Nat):List Int:=((List.range n).filter fun i=>evP (zN i) 1 1 c==0).map fun i:Nat=>(i:Int)
def poB(s:List Int)(u:Nat):Option Mat:=elA (s.length-u) u 0 (poM s u)
def poC(s:List Int)(u:Nat):Option (List Nat):=match poB s u with
 |none=>none
 |some B=>if fiZ (s.length-u) u B=true then some (cN B u)else none
def Zjv(s:List Int)(u:Nat):List Int:=match poC s u with
 |none=>[]
 |some c=>poX c 15
def poO(s:List Int)(u:Nat):Bool:=match poC s u with
 |none=>false
 |some c=>decide ((poX c 15).length=u)
theorem ZxK{s:List Int}(h:s.all elB=true)(j:Nat):elB (s.getD j 0)=true:=by
 by_cases hj:j<s.length
 ·exact List.all_eq_true.1 h _ (ZbC hj)
 ·rw[List.getD_eq_getElem?_getD,List.getElem?_eq_none (by omega)];rfl
theorem Zpq{s:List Int}(h:s.all elB=true)(u:Nat):ElM (poM s u):=fun j i=>by
 have k:=fun n=>of_decide_eq_true (ZxK h n)
 unfold poM
 split
 ·have:=k (j+u-(i+1));omega
 ·split
  ·have:=k (j+u);omega
  ·decide
def pwM(s:List Int)(u n:Nat):List (List Int):=(List.range n).map fun j=>Zbw u (poM s u j)
theorem Zts(s:List Int)(u n:Nat):(pwM s u n).length=n:=by simp[pwM]
theorem Zt0(s:List Int)(u n:Nat):pwM s u (n+1)=pwM s u n++[Zbw u (poM s u n)]:=by unfold pwM;rw[List.range_succ,List.map_append];rfl
theorem ZwT(s:List Int)(u R:Nat):St R u (List.range R) (pwM s u R) (poM s u):=by
 have g:∀i,i<R→(List.range R).getD i 0=i:=fun i hi=>by rw[List.getD_eq_getElem?_getD,List.getElem?_range hi];rfl
 refine⟨List.length_range,fun i j hi hj e=>by rw[g i hi,g j hj]at e;exact e,fun i hi=>by rw[g i hi,Zts];exact hi,fun i hi=>?_⟩
 rw[g i hi]
 unfold pwM
 rw[List.getD_eq_getElem?_getD,List.getElem?_map,List.getElem?_range hi];rfl
def pwP(s:List Int)(u j n:Nat):List Int:=(List.range n).map fun i=>s.getD (j+u-(i+1)) 0
theorem Zrf(s:List Int)(u j n:Nat):(pwP s u j n).length=n:=by simp[pwP]
theorem Zwf(s:List Int)(u j n:Nat):pwP s u j (n+1)=pwP s u j n++[s.getD (j+u-(n+1)) 0]:=by unfold pwP;rw[List.range_succ,List.map_append];rfl
theorem Zzg{s:List Int}(h:s.all elB=true)(u j:Nat):pwP s u j u++[s.getD (j+u) 0]=Zbw u (poM s u j):=by
 have k:=fun n=>of_decide_eq_true (ZxK h n)
 unfold Zbw
 rw[List.range_succ,List.map_append]
 congr 1
 ·unfold pwP
  refine List.map_congr_left fun i hi=>?_
  rw[poM,if_pos (List.mem_range.1 hi)]
  have:=k (j+u-(i+1));omega
 ·rw[List.map_cons,List.map_nil,poM,if_neg (Nat.lt_irrefl _),if_pos rfl]
  have:=k (j+u)
  congr 1;omega
section
variable {C:Ctx}(hC:C.P=Try.prog)(s:List Int)(hs:s.all elB=true)(hl:s.length≤6)(u:Nat)(hu:u≤6)
include hC hs hl hu
theorem ZBm(j:Nat)(hj:j+u<s.length)(l1:List Nat)(l2:List (List Int))(h1:l1.length≤1000)(r:AV)(fr:Option Fresh)
 (hn:Ev C (Zdd s u ((j+1:Nat):Int) (l1++[l2.length]) (l2++[Zbw u (poM s u j)])) (ZcG s u ((j+1:Nat):Int) (l1++[l2.length]) (l2++[Zbw u (poM s u j)])) (ZaL 116 r fr)):
 ∀(c i:Nat),i+c=u→Ev C (Zff s u j l1 l2 ((i+1:Nat):Int) (pwP s u j i)) (Zd5 s u j l1 l2 ((i+1:Nat):Int) (pwP s u j i)) (ZaL 116 r fr):=by
 intro c
 induction c with
 |zero=>
  intro i hc
  have q:=Zrf s i j i
  have k1:((j:Int)+(u:Int)).toNat=j+u:=by omega
  rw[←Zzg hs,←show i=u by omega]at hn
  rw[←show i=u by omega]at k1 hj⊢
  refine tgo hC Zay ZhB ?_
  simp only[ZdI,ZlT,ZaO,Zbb,k1]
  simp[-List.getD_eq_getElem?_getD,hj,show ¬(i:Int)+1≤(i:Int) by omega,q,AV.bx,Zag]at hn⊢
  exact⟨by omega,hn⟩
 |succ c ih=>
  intro i hc
  have q:=Zrf s u j i
  have i0:=ih (i+1) (by omega)
  rw[Zwf]at i0
  have k1:((j:Int)+(u:Int)-((i+1:Nat):Int)).toNat=j+u-(i+1):=by omega
  have hlt:j+u-(i+1)<s.length:=by omega
  refine tgo hC Zay ZhB ?_
  simp only[ZdI,ZlT,ZmU,ZaO,Zbb,k1]
  simp[-List.getD_eq_getElem?_getD,hlt,show(i:Int)+1≤(u:Int) by omega,q,AV.bx,Zag]at i0⊢
  refine⟨?_,i0⟩
  omega
theorem ZxE(huS:u≤s.length)(r:AV)(fr:Option Fresh)
 (hn:Ev C (ZbJ s u ((s.length-u:Nat):Int) ((s.length:Nat):Int) ((s.length:Nat):Int) false 0 (List.range (s.length-u)) (pwM s u (s.length-u))) (Zbv s u ((s.length-u:Nat):Int) ((s.length:Nat):Int) ((s.length:Nat):Int) false 0 (List.range (s.length-u)) (pwM s u (s.length-u))) (ZaL 116 r fr)):
 ∀(c j:Nat),j+c=s.length-u→Ev C (Zdd s u j (List.range j) (pwM s u j)) (ZcG s u j (List.range j) (pwM s u j)) (ZaL 116 r fr):=by
 intro c
 induction c with
 |zero=>
  intro j hc
  refine tgo hC Zay Zhr ?_
  have e1:(j:Int)+(u:Int)=(s.length:Int):=by omega
  rw[←show j=s.length-u by omega]at hn
  simp only[ZdX,ZlT,e1]
  simp[-List.getD_eq_getElem?_getD]at hn⊢
  exact⟨by omega,hn⟩
 |succ c ih=>
  intro j hc
  have i0:=ih (j+1) (by omega)
  have q:=Zts s u j
  rw[Zt0,List.range_succ]at i0
  have i1:=ZBm hC s hs hl u hu j (by omega) (List.range j) (pwM s u j) (by simp;omega) r fr (by rw[q];exact i0) u 0 (by omega)
  refine tgo hC Zay Zhr ?_
  simp[-List.getD_eq_getElem?_getD,ZdX,show(j:Int)+(u:Int)<(s.length:Int) by omega,pwP]at i1⊢
  exact⟨by omega,i1⟩
end
theorem Zlp(c:List Nat)(n:Nat):poX c (n+1)=if evP (zN n) 1 1 c=0 then poX c n++[(n:Int)]else poX c n:=by
 unfold poX
 rw[List.range_succ,List.filter_append,List.map_append]
 by_cases h:evP (zN n) 1 1 c=0<;>simp[h]
theorem Zrc(c:List Nat):∀n,(poX c n).length≤n
 |0=>by simp[poX]
 |n+1=>by
  have:=Zrc c n
  rw[Zlp];split<;>simp<;>omega
theorem ZCD{B:Mat}{u j:Nat}(h:j<u):(cN B u).drop j=B j u::(cN B u).drop (j+1):=by
 rw[List.drop_eq_getElem_cons (by simp[cN];exact h)]
 simp[cN]
theorem ZEL(B:Mat)(u:Nat):(cN B u).length=u:=by simp[cN]
theorem ZHr(i:Nat):zN i<16:=(Zvy (ZbD _) (ZqB _)).1
section
variable {C:Ctx}(hC:C.P=Try.prog)(u:Nat)(hu:u≤6)(rows:List (List Int)){B:Mat}(hB:ElM B)
include hC hu hB
theorem ZEi(i:Nat)(hi:i<15)(l:List Int)(hl:l.length≤15)(r:AV)(fr:Option Fresh)
 (hn:Ev C (ZbG u rows (Zcl B u u) ((i+1:Nat):Int) (if evP (zN i) 1 1 (cN B u)=0 then l++[(i:Int)]else l)) (Zbs u rows (Zcl B u u) ((i+1:Nat):Int) (if evP (zN i) 1 1 (cN B u)=0 then l++[(i:Int)]else l)) (ZaL 116 r fr)):
 ∀(c k m t:Nat),k+c=u→m<16→t<16→evP (zN i) m t ((cN B u).drop k)=evP (zN i) 1 1 (cN B u)→Ev C (Zfg u rows (Zcl B u u) i l u ((m:Nat):Int) ((t:Nat):Int) k ((zN i:Nat):Int)) (ZdJ u rows (Zcl B u u) i l u ((m:Nat):Int) ((t:Nat):Int) k ((zN i:Nat):Int)) (ZaL 116 r fr):=by
 intro c
 induction c with
 |zero=>
  intro k m t hc hm ht he
  rw[List.drop_of_length_le (by rw[ZEL];omega),evP]at he
  refine tgo hC Zay ZhJ ?_
  rw[←he]at hn
  by_cases h0:m=0
  ·subst h0
   simp[-List.getD_eq_getElem?_getD,Zct,show ¬(k:Int)<(u:Int) by omega,AV.bx,Zag]at hn⊢
   exact⟨by omega,hn⟩
  ·have h0':¬((m:Nat):Int)=0:=by omega
   simp[-List.getD_eq_getElem?_getD,Zct,show ¬(k:Int)<(u:Int) by omega,h0,AV.bx,Zag]at hn⊢
   exact⟨by omega,hn⟩
 |succ c ih=>
  intro k m t hc hm ht he
  have hk:k<u:=by omega
  rw[ZCD hk,evP]at he
  have z16:=ZHr i
  have l1:=Zbl ht z16
  have l2:=Zbl (hB k u) l1
  have i0:=ih (k+1) (m ^^^ Zar (B k u) (Zar t (zN i))) (Zar t (zN i)) (by omega) (ZbZ hm l2) l1 he
  have sl:=ZcB B u u
  have sv:(Zcl B u u).getD k 0=((B k u:Nat):Int):=by
   unfold Zcl
   rw[List.getD_eq_getElem?_getD,List.getElem?_map,List.getElem?_range hk];rfl
  have x1:gM ((t:Nat):Int) ((zN i:Nat):Int)=((Zar t (zN i):Nat):Int):=rfl
  have x2:gM ((B k u:Nat):Int) ((Zar t (zN i):Nat):Int)=((Zar (B k u) (Zar t (zN i)):Nat):Int):=rfl
  have x3:=ZbS (r:=m) (k:=Zar (B k u) (Zar t (zN i))) (by omega) (by omega)
  have b1:=ZaR ht
  have b2:=ZaR z16
  have b3:=ZaR (hB k u)
  have b4:=ZaR l1
  refine tgo hC Zay ZhJ ?_
  simp only[Zct,ZaO,Zbb,Int.toNat_natCast,sv,x1,x2,x3]
  simp[-List.getD_eq_getElem?_getD,hk,sl,b1,b2,b3,b4,show(k:Int)<(u:Int) by omega]at i0⊢
  exact⟨by omega,i0⟩
theorem ZBT:∀(c i:Nat),i+c=15→Ev C (ZbG u rows (Zcl B u u) i (poX (cN B u) i)) (Zbs u rows (Zcl B u u) i (poX (cN B u) i)) (ZaL 116 (.tup [.row 0 0, .bool (decide ((poX (cN B u) 15).length=u))]) (some ⟨3,1, .ints .i64 (poX (cN B u) 15)⟩)):=by
 intro c
 induction c with
 |zero=>
  intro i hc
  have:i=15:=by omega
  subst this
  refine tgo hC Zay Zhq ?_
  simp[-List.getD_eq_getElem?_getD,ZdW]
  omega
 |succ c ih=>
  intro i hc
  have i0:=ih (i+1) (by omega)
  rw[Zlp]at i0
  have sl:=ZcB B u u
  have i1:=ZEi hC u hu rows hB i (by omega) (poX (cN B u) i) (by have:=Zrc (cN B u) i;omega) _ _ i0 u 0 1 1 (by omega) (by omega) (by omega) (by rw[List.drop_zero])
  have e1:ZyA (i:Int)=((Zbe (14-i):Nat):Int):=by
   unfold ZyA gP
   rw[show ((14:Int)-(i:Int)).toNat=14-i by omega]
  have b1:=ZaR (ZbD (14-i))
  have e2:gI ((Zbe (14-i):Nat):Int)=((zN i:Nat):Int):=rfl
  refine tgo hC Zay Zhq ?_
  simp only[ZdW,e1,e2]
  simp[-List.getD_eq_getElem?_getD,b1,sl,show(i:Int)<15 by omega]at i1⊢
  exact⟨by omega,i1⟩
end
theorem ZsB(s:List Int)(u:Int)(h:s.all elB=true∧s.length≤6∧0≤u∧u≤s.length):Zai Try.prog 116 [.list (.ints .i64 s), .int .i64 u] (.tup [.list (.ints .i64 (Zjv s u.toNat)), .bool (poO s u.toNat)]) Zvc:=by
 obtain⟨h1,h2,h3,h4⟩:=h
 obtain⟨U,rfl⟩:=Int.eq_ofNat_of_zero_le h3
 rw[Int.toNat_natCast]
 cases hc:poC s U with
 |none=>
  have e1:Zjv s U=[]:=by unfold Zjv;rw[hc]
  have e2:poO s U=false:=by unfold poO;rw[hc]
  rw[e1,e2]
  refine ZlI (r:=.tup [.nils, .bool false]) (fr:=none) ?_ rfl (.tup ⟨.nil _ rfl, .same _ rfl rfl,trivial⟩)
  refine start (Zp4 s U) fun C hC=>tgo hC Zay Zw5 ?_
  have i6:=Zxb hC s ((s.length-U:Nat):Int) ((s.length:Nat):Int) ((s.length:Nat):Int) false (s.length-U) U (by omega) (by omega) (.tup [.nils, .bool false]) none (A:=poM s U) (refs:=List.range (s.length-U)) (rows:=pwM s U (s.length-U)) (Zpq h1 U) (ZwT _ _ _) (fun B rows hB hz=>by
   exfalso
   unfold poC poB at hc
   rw[hB]at hc
   simp only[fiZ_iff.2 hz,if_true]at hc
   cases hc) (fun _=>⟨rfl,rfl⟩)
  have i2:=ZxE hC s h1 h2 U (by omega) (by omega) _ _ i6 (s.length-U) 0 (by omega)
  simp[Zta,pwM]at i2⊢
  exact i2
 |some c=>
  have e1:Zjv s U=poX c 15:=by unfold Zjv;rw[hc]
  have e2:poO s U=decide ((poX c 15).length=U):=by unfold poO;rw[hc]
  rw[e1,e2]
  refine ZlI (r:=.tup [.row 0 0, .bool (decide ((poX c 15).length=U))]) (fr:=some ⟨3,1, .ints .i64 (poX c 15)⟩) ?_ rfl (.tup ⟨.row _ rfl rfl rfl, .same _ rfl rfl,trivial⟩)
  refine start (Zp4 s U) fun C hC=>tgo hC Zay Zw5 ?_
  have i6:=Zxb hC s ((s.length-U:Nat):Int) ((s.length:Nat):Int) ((s.length:Nat):Int) false (s.length-U) U (by omega) (by omega) (.tup [.row 0 0, .bool (decide ((poX c 15).length=U))]) (some ⟨3,1, .ints .i64 (poX c 15)⟩) (A:=poM s U) (refs:=List.range (s.length-U)) (rows:=pwM s U (s.length-U)) (Zpq h1 U) (ZwT _ _ _) (fun B rows hB hz=>by
   have hbe:=(Ze6 (u:=U) U 0 _ B (Zpq h1 U) (Zcy _ _) (by omega) (fun _=>Nat.zero_le _) hB).1
   unfold poC poB at hc
   rw[hB]at hc
   simp only[fiZ_iff.2 hz,if_true,Option.some.injEq]at hc
   subst hc
   simpa[poX]using ZBT hC U (by omega) rows hbe 15 0 (by omega)) (fun hno=>by
   exfalso
   unfold poC poB at hc
   cases hB:elA (s.length-U) U 0 (poM s U)with
   |none=>rw[hB]at hc;cases hc
   |some B=>
    rw[hB]at hc
    have:=hno B hB
    rw[←fiZ_iff]at this
    simp only[this,if_false,Bool.false_eq_true]at hc
    cases hc)
  have i2:=ZxE hC s h1 h2 U (by omega) (by omega) _ _ i6 (s.length-U) 0 (by omega)
  simp[Zta,pwM]at i2⊢
  exact i2
def k116:Ctr:=⟨116,0,fun _ a=>match a with |[.list (.ints .i64 s), .int .i64 u]=>some (decide (s.all elB=true∧s.length≤6∧0≤u∧u≤s.length), .tup [.list (.ints .i64 (Zjv s u.toNat)), .bool (poO s u.toNat)],Zvc) |_=>none⟩
theorem Zzi:k116.OK Try.prog:=fun pa args r fr h=>by
 simp only[k116]at h
 split at h
 ·simp only[Option.some.injEq,Prod.mk.injEq,decide_eq_true_eq]at h
  obtain⟨h0,rfl,rfl⟩:=h
  exact ZsB _ _ h0
 ·cases h
def Kj:List Ctr:=[k116]++Ki
theorem ZqX:Zaz Try.prog Kj:=⟨Zzi,ZHz⟩
end Go.Proofs.Ytklbmkllepkjcaa
/- Paths of functions, printed by the explorer (Gx). No condition. -/
namespace Go.Proofs.Ytklbmkllepkjcaa
set_option maxRecDepth 100000
set_option linter.unusedVariables false
def ZC7(w:List Int)(h:Int):AFrame:={ fn:=90,N:=56,env:=[(0,AV.agg (.ints .i64 w)),(1,AV.int .i64 h)],todo:=[.code a90.code],defs:=[],rnd:=none,ret:=false,res:=[ARes.cell 4 true 15,ARes.tmp 5,ARes.tmp 6] }
def ZKJ(w:List Int)(h:Int):List AFrame:=[(ZC7 w h)]
theorem ZyO(w:List Int)(h:Int):Zau tab 90 [AV.agg (.ints .i64 w),AV.int .i64 h]=some (ZC7 w h):=rfl
def ZiH(w:List Int)(h:Int)(A:Ar)(n0:Int)(l1:List Int)(n2:Int):List AFrame:=[{ fn:=90,N:=56,env:=[(1,AV.int .i64 h),(2,AV.ptr 90003 0 0 0),(4,AV.ptr 90005 0 0 0),(7,AV.row 90018 0),(19,AV.int .i64 n0),(20,AV.int .i64 n2)],todo:=.code (ACode.gh [] ZCC)::ZHH,defs:=[],rnd:=none,ret:=false,res:=[ARes.cell 4 true 15,ARes.tmp 5,ARes.tmp 6] }]
def Zgr(w:List Int)(h:Int)(A:Ar)(n0:Int)(l1:List Int)(n2:Int):Zaa:=[(90003,{ base:=0,blks:=[Blk.row 107 (A.len w) (Row.gen [.agg (.ints .i64 w)])] }),(90005,{ base:=0,blks:=[Blk.row 107 15 (Row.gen [.agg (.ints .i64 [0,0,0,0,0,0,0,0,0,0,0,0,0,0,0])])] }),(90018,{ base:=0,blks:=[Blk.row 3 1 (.ints .i64 l1)] })]
abbrev Zf5(w:List Int)(h:Int)(A:Ar)(n0:Int)(l1:List Int)(n2:Int):List AFrame×Zaa:=(ZiH w h A n0 l1 n2,Zgr w h A n0 l1 n2)
def ZiM(w:List Int)(A:Ar)(l3:List Int)(n4 n5:Int):List AFrame:=[{ fn:=90,N:=56,env:=[(2,AV.ptr 90003 0 0 0),(4,AV.ptr 90005 0 0 0),(11,AV.ptr 90012 0 0 0),(13,AV.int .i64 n4),(39,AV.int .i64 n5)],todo:=.code (ACode.gh [] ZCZ)::ZGh,defs:=[],rnd:=none,ret:=false,res:=[ARes.cell 4 true 15,ARes.tmp 5,ARes.tmp 6] }]
def Zgg(w:List Int)(A:Ar)(l3:List Int)(n4 n5:Int):Zaa:=[(90003,{ base:=0,blks:=[Blk.row 107 (A.len w) (Row.gen [.agg (.ints .i64 w)])] }),(90005,{ base:=0,blks:=[Blk.row 107 15 (Row.gen [.agg (.ints .i64 [0,0,0,0,0,0,0,0,0,0,0,0,0,0,0])])] }),(90012,{ base:=0,blks:=[Blk.row 107 15 (Row.gen [.agg (.ints .i64 l3)])] })]
abbrev Zgt(w:List Int)(A:Ar)(l3:List Int)(n4 n5:Int):List AFrame×Zaa:=(ZiM w A l3 n4 n5,Zgg w A l3 n4 n5)
def ZDX(A:Ar)(K:KT)(F:FT)(w:List Int)(h:Int):Prop:=rB [A.inR .i64 (A.add h 1),decide (okw (A.sub3 w 0 15)=true∧hfB h=true),Nat.ble 15 (A.len w),Nat.blt 0 (A.len [0,0,0,0,0,0,0,0,0,0,0,0,0,0,0]),Nat.blt 0 (A.len w)] (K (Zf5 (w) (h) (A) (A.add h 1) (syL (A.sub3 w 0 15) (Nat.mul 2 (Int.toNat h))) (0)))
theorem ZGg{A:Ar}{K:KT}{F:FT}{M:MT}{w:List Int}{h:Int} :Zal A tab Kj 90 K F M (.run 24 (.hd)) (ZKJ w h) []=ZDX A K F w h:=by kernel_rfl
def Zc7(A:Ar)(K:KT)(F:FT)(w:List Int)(h n0:Int)(l1:List Int)(n2:Int):Prop:=bB (A.lt n2 n0) (rB [decide (List.all l1 elB=true∧List.length l1≤6∧0≤n2∧n2≤ ↑(List.length l1))] (bB (A.not (poO l1 (Int.toNat n2))) (rB [A.inR .i64 (A.add n2 1)] (K (Zf5 (w) (h) (A) (n0) (l1) (A.add n2 1)))) (rB [Nat.beq (A.len (fiV h (A.sub3 w 0 15) (Zjv l1 (Int.toNat n2)))) 15,Nat.blt 0 (A.len [0,0,0,0,0,0,0,0,0,0,0,0,0,0,0]),decide (fiG (A.sub3 w 0 15) h (Zjv l1 (Int.toNat n2))=true),Nat.ble 15 (A.len w)] (bB (fiO h (A.sub3 w 0 15) (Zjv l1 (Int.toNat n2))) (K (Zgt (w) (A) (fiV h (A.sub3 w 0 15) (Zjv l1 (Int.toNat n2))) (0) (0))) (rB [A.inR .i64 (A.add n2 1)] (K (Zf5 (w) (h) (A) (n0) (l1) (A.add n2 1)))))))) (rB [Nat.beq (A.len [0,0,0,0,0,0,0,0,0,0,0,0,0,0,0]) 15] (rB [Zad (Zad (Nat.ble 15 (A.len [0,0,0,0,0,0,0,0,0,0,0,0,0,0,0])) true) true] (F (AV.tup [AV.agg (.ints .i64 (A.sub3 [0,0,0,0,0,0,0,0,0,0,0,0,0,0,0] 0 15)),AV.int .i64 0,AV.bool false]) (none))))
theorem ZkL{A:Ar}{K:KT}{F:FT}{M:MT}{w:List Int}{h n0:Int}{l1:List Int}{n2:Int} :Zal A tab Kj 90 K F M (.run 6 (.tf (.run 26 (.tf (.run 7 (.hd)) (.run 19 (.tf (.run 12 (.hd)) (.run 8 (.hd)))))) (.run 9 (.fn)))) (ZiH w h A n0 l1 n2) (Zgr w h A n0 l1 n2)=Zc7 A K F w h n0 l1 n2:=by kernel_rfl
def Zek(A:Ar)(K:KT)(F:FT)(w l3:List Int)(n4 n5:Int):Prop:=bB (A.lt n5 15) (rB [Nat.blt (0+A.nat n5) (A.len l3),Zad (A.le 0 n5) (A.lt n5 (A.int 15)),Nat.blt (0+A.nat n5) (A.len w),Zad (A.le 0 n5) (A.lt n5 (A.int 15))] (bB (A.not (A.eq (A.nth w (0+A.nat n5)) (A.nth l3 (0+A.nat n5)))) (rB [A.inR .i64 (A.add n5 1),A.inR .i64 (A.add n4 1)] (K (Zgt (w) (A) (l3) (A.add n4 1) (A.add n5 1)))) (rB [A.inR .i64 (A.add n5 1)] (K (Zgt (w) (A) (l3) (n4) (A.add n5 1)))))) (rB [Nat.beq (A.len (A.sub3 l3 0 15)) 15,Nat.ble 15 (A.len l3)] (rB [Zad (Zad (Nat.ble 15 (A.len (A.sub3 l3 0 15))) true) true] (F (AV.tup [AV.agg (.ints .i64 (A.sub3 (A.sub3 l3 0 15) 0 15)),AV.int .i64 n4,AV.bool true]) (none))))
theorem ZjB{A:Ar}{K:KT}{F:FT}{M:MT}{w l3:List Int}{n4 n5:Int} :Zal A tab Kj 90 K F M (.run 6 (.tf (.run 11 (.tf (.run 12 (.hd)) (.run 8 (.hd)))) (.run 10 (.fn)))) (ZiM w A l3 n4 n5) (Zgg w A l3 n4 n5)=Zek A K F w l3 n4 n5:=by kernel_rfl
end Go.Proofs.Ytklbmkllepkjcaa
/- Contracts as a list. No condition. -/
namespace Go.Proofs.Ytklbmkllepkjcaa
def deR(h:Int)(w:List Int):Nat→Nat→Option (List Int)
 |0,_=>none
 |k+1,u=>if poO (syL w (2*h.toNat)) u=true∧fiO h w (Zjv (syL w (2*h.toNat)) u)=true then some (fiV h w (Zjv (syL w (2*h.toNat)) u))else deR h w k (u+1)
def deA:Option (List Int)→List Int→AV
 |none,_=>.tup [.agg (.ints .i64 (List.replicate 15 0)), .int .i64 0, .bool false]
 |some x,w=>.tup [.agg (.ints .i64 x), .int .i64 (Zbq w x), .bool true]
@[irreducible] def deO (h:Int) (w:List Int):Option (List Int):=deR h w (h.toNat+1) 0
@[irreducible] def deV (h:Int) (w:List Int):List Int:=(deO h w).getD (List.replicate 15 0)
@[irreducible] def deN (h:Int) (w:List Int):Int:=match deO h w with
 |none=>0
 |some x=>Zbq w x
theorem ZDs(h:Int)(w:List Int):deA (deO h w) w=.tup [.agg (.ints .i64 (deV h w)), .int .i64 (deN h w), .bool (deO h w).isSome]:=by
 unfold deV deN
 cases deO h w<;>rfl
theorem Zxj{w:List Int}(h:Zcs w 0 15=0)(n:Nat):(syL w n).all elB=true:=by
 unfold syL
 refine List.all_eq_true.2 fun x hx=>?_
 obtain⟨i,_,rfl⟩:=List.mem_map.1 hx
 exact ZDZ h (i+1)
theorem ZBe(c:List Nat):∀(n:Nat) (p:Int),n≤15→p<0→erP p (poX c n)=0∧∀x∈poX c n,x<n:=by
 have key:∀(l:List Int) (p:Int) (x:Int),erP p l=0→(∀y∈l,y<x)→p<x→0≤x∧x≤14→erP p (l++[x])=0:=by
  intro l
  induction l with
  |nil=>
   intro p x _ _ h1 h2
   rw[List.nil_append,erP,if_pos (show Zao x 0 14=true from decide_eq_true h2),if_pos h1];rfl
  |cons y l ih=>
   intro p x h0 h1 h2 h3
   rw[erP]at h0
   split at h0
   ·rename_i hw
    split at h0
    ·rename_i hp
     rw[List.cons_append,erP,if_pos hw,if_pos hp]
     exact ih y x h0 (fun z hz=>h1 z (List.mem_cons_of_mem _ hz)) (h1 y List.mem_cons_self) h3
    ·cases h0
   ·cases h0
 intro n
 induction n with
 |zero=>intro p _ _;exact⟨by simp[poX,erP],by simp[poX]⟩
 |succ n ih=>
  intro p hn hp
  obtain⟨a,b⟩:=ih p (by omega) hp
  rw[Zlp]
  split
  ·refine⟨key _ _ _ a b (by omega) (by omega),fun x hx=>?_⟩
   rcases List.mem_append.1 hx with h |h
   ·have:=b x h;omega
   ·have:=List.mem_singleton.1 h;omega
  ·exact⟨a,fun x hx=>by have:=b x hx;omega⟩
theorem Zz2{h:Int}{w:List Int}{u:Nat}(hw:okw w=true)(hh:hfB h=true)(hu:u≤2*h.toNat)(ho:poO (syL w (2*h.toNat)) u=true):fiG w h (Zjv (syL w (2*h.toNat)) u)=true:=by
 unfold poO at ho
 unfold Zjv
 split at ho
 ·cases ho
 ·rename_i c hc
  have hl:=of_decide_eq_true ho
  have h2:=of_decide_eq_true hh
  unfold fiG
  rw[Bool.and_eq_true,Bool.and_eq_true]
  refine⟨hw,hh,decide_eq_true ?_⟩
  unfold erE
  rw[if_neg (by omega)]
  exact(ZBe c 15 (-1) (by omega) (by omega)).1
section
variable {C:Ctx}(hC:C.P=Try.prog)(w:List Int)(h:Int)(hw:okw w=true)(hh:hfB h=true)
include hC hw
theorem ZGa(x:List Int)(hx:x.length=15):∀(c i:Nat) (n:Int),i+c=15→0≤n→n≤i→n+Zbq (w.drop i) (x.drop i)=Zbq w x→Ev C (ZiM w std x n i) (Zgg w std x n i) (ZaL 90 (deA (some x) w) none):=by
 obtain⟨w1,w2⟩:=okw_iff.1 hw
 intro c
 induction c with
 |zero=>
  intro i n hc h0 hn he
  have:i=15:=by omega
  subst this
  rw[List.drop_of_length_le (by omega)]at he
  have he:n=Zbq w x:=by simpa[Zbq]using he
  subst he
  have e1:=Zc6 hx
  refine tgo hC ZqX ZjB ?_
  simp only[Zek,e1]
  simp[-List.getD_eq_getElem?_getD,hx,deA]
 |succ c ih=>
  intro i n hc h0 hn he
  rw[ZeF (by omega),ZeF (show i<x.length by omega),Zbq]at he
  refine tgo hC ZqX ZjB ?_
  by_cases hq:w.getD i 0=x.getD i 0
  ·have i0:=ih (i+1) n (by omega) h0 (by omega) (by rw[if_pos hq]at he;omega)
   simp[-List.getD_eq_getElem?_getD,Zek,hx,w1,hq,show(i:Int)<15 by omega,show i<15 by omega]at i0⊢
   exact⟨by omega,i0⟩
  ·have i0:=ih (i+1) (n+1) (by omega) (by omega) (by omega) (by rw[if_neg hq]at he;omega)
   simp[-List.getD_eq_getElem?_getD,Zek,hx,w1,hq,show(i:Int)<15 by omega,show i<15 by omega]at i0⊢
   exact⟨by omega,i0⟩
theorem ZGB(hh:hfB h=true):∀(c u:Nat),(u:Int)+c=h+1→Ev C (ZiH w h std (h+1) (syL w (2*h.toNat)) u) (Zgr w h std (h+1) (syL w (2*h.toNat)) u) (ZaL 90 (deA (deR h w c u) w) none):=by
 obtain⟨w1,w2⟩:=okw_iff.1 hw
 have h2:=of_decide_eq_true hh
 have e1:=Zc6 w1
 intro c
 induction c with
 |zero=>
  intro u hc
  refine tgo hC ZqX ZkL ?_
  simp[-List.getD_eq_getElem?_getD,Zc7,show ¬(u:Int)<h+1 by omega,deR,deA]
 |succ c ih=>
  intro u hc
  have i0:=ih (u+1) (by omega)
  have sl:=Zd7 w (2*h.toNat)
  have sg:(syL w (2*h.toNat)).all elB=true∧(syL w (2*h.toNat)).length≤6∧0≤(u:Int)∧(u:Int)≤((syL w (2*h.toNat)).length:Int):=⟨Zxj w2 _,by omega,by omega,by omega⟩
  have hlt:(u:Int)<h+1:=by omega
  refine tgo hC ZqX ZkL ?_
  rw[deR]
  generalize hs:syL w (2*h.toNat)=s at*
  cases ho:poO s u with
  |false=>
   simp only[Zc7,Int.toNat_natCast,ho,e1]
   simp[-List.getD_eq_getElem?_getD,hlt]at i0⊢
   exact⟨by simpa using sg,by omega,i0⟩
  |true=>
   have hg:=Zz2 (u:=u) hw hh (by omega) (by rw[hs];exact ho)
   rw[hs]at hg
   have vl:=ZoA (h:=h) (e:=Zjv s u) w1
   cases hf:fiO h w (Zjv s u)with
   |false=>
    simp only[Zc7,Int.toNat_natCast,ho,e1,hf]
    simp[-List.getD_eq_getElem?_getD,hlt,hg,vl,w1]at i0⊢
    exact⟨by simpa using sg,by omega,i0⟩
   |true=>
    have i1:=ZGa hC w hw (fiV h w (Zjv s u)) vl 15 0 0 (by omega) (by omega) (by omega) (by simp)
    simp only[Zc7,Int.toNat_natCast,ho,e1,hf]
    simp[-List.getD_eq_getElem?_getD,hlt,hg,vl,w1]at i1⊢
    exact⟨by simpa using sg,i1⟩
end
theorem ZuY(w:List Int)(h:Int)(hw:okw w=true)(hh:hfB h=true):Zai Try.prog 90 [.agg (.ints .i64 w), .int .i64 h] (.tup [.agg (.ints .i64 (deV h w)), .int .i64 (deN h w), .bool (deO h w).isSome]) none:=by
 obtain⟨w1,w2⟩:=okw_iff.1 hw
 have h2:=of_decide_eq_true hh
 rw[←ZDs]
 refine start (ZyO w h) fun C hC=>tgo hC ZqX ZGg ?_
 have i:=ZGB hC w h hw hh (h.toNat+1) 0 (by omega)
 have e1:=Zc6 w1
 unfold deO
 simp only[ZDX,e1]
 simp[-List.getD_eq_getElem?_getD,w1,hw,hh]at i⊢
 exact⟨by omega,i⟩
def k90:Ctr:=⟨90,0,fun _ a=>match a with |[.agg (.ints .i64 w), .int .i64 h]=>some (decide (okw w=true∧hfB h=true), .tup [.agg (.ints .i64 (deV h w)), .int .i64 (deN h w), .bool (deO h w).isSome],none) |_=>none⟩
theorem ZA6:k90.OK Try.prog:=fun pa args r fr h=>by
 simp only[k90]at h
 split at h
 ·simp only[Option.some.injEq,Prod.mk.injEq,decide_eq_true_eq]at h
  obtain⟨h0,rfl,rfl⟩:=h
  exact ZuY _ _ h0.1 h0.2
 ·cases h
def Kk:List Ctr:=[k90]++Kj
theorem ZDa:Zaz Try.prog Kk:=⟨ZA6,ZqX⟩
end Go.Proofs.Ytklbmkllepkjcaa
/- The bound of the sizes is a letter. No condition. -/
namespace Go.Proofs.Ytklbmkllepkjcaa
def ZaD:Nat→Nat→List (List Int)
 |0,_=>[[]]
 |z+1,f=>(List.range (15-f)).flatMap fun i=>(ZaD z (f+i+1)).map fun l=>((f+i:Nat):Int)::l
def Znn(f z:Int):List AV:=(ZaD z.toNat f.toNat).map fun l=>.list (.ints .i64 l)
attribute [irreducible] Znn
def seB(N:Nat)(f z:Int):Bool:=decide (0≤f∧f≤15∧0≤z∧z<N)
def k93(N:Nat):Ctr:=⟨93,0,fun _ a=>match a with |[.int .i64 f, .int .i64 z]=>some (seB N f z, .list (.big (.ints .i64) (Znn f z)),none) |_=>none⟩
def Kn(N:Nat):List Ctr:=k93 N::Kk
end Go.Proofs.Ytklbmkllepkjcaa
/- Paths of functions, printed by the explorer (Gx). No condition. -/
namespace Go.Proofs.Ytklbmkllepkjcaa
set_option maxRecDepth 100000
set_option linter.unusedVariables false
def ZBw(f z:Int):AFrame:={ fn:=93,N:=39,env:=[(0,AV.int .i64 f),(1,AV.int .i64 z)],todo:=[.code a93.code],defs:=[],rnd:=none,ret:=false,res:=[ARes.tmp 4] }
def ZKM(f z:Int):List AFrame:=[(ZBw f z)]
theorem Zru(f z:Int):Zau tab 93 [AV.int .i64 f,AV.int .i64 z]=some (ZBw f z):=rfl
def Zfv(z n0:Int)(l1:List Nat)(l2:List (List Int)):List AFrame:=[{ fn:=93,N:=39,env:=[(1,AV.int .i64 z),(5,AV.row 93038 0),(6,AV.int .i64 n0)],todo:=.code (ACode.gh [] ZD4)::ZIf,defs:=[],rnd:=none,ret:=false,res:=[ARes.tmp 4] }]
def Zev(z n0:Int)(l1:List Nat)(l2:List (List Int)):Zaa:=[(93038,{ base:=0,blks:=[Blk.row 25 1 (Row.refs 1000093 l1)] }),(1000093,{ base:=0,blks:=[],sym:=Sym.ints 3 1 .i64 l2 })]
abbrev Zke(z n0:Int)(l1:List Nat)(l2:List (List Int)):List AFrame×Zaa:=(Zfv z n0 l1 l2,Zev z n0 l1 l2)
def Zjn(z n0:Int)(x3:List AV)(n4:Int)(l5:List Nat)(l6:List (List Int)):List AFrame:=[{ fn:=93,N:=39,env:=[(1,AV.int .i64 z),(5,AV.row 93038 0),(6,AV.int .i64 n0),(7,AV.list (Row.big (.ints .i64) x3)),(8,AV.int .i64 n4)],todo:=.code (ACode.gh [] ZFu)::ZIo,defs:=[],rnd:=none,ret:=false,res:=[ARes.tmp 4] }]
def Zgf(z n0:Int)(x3:List AV)(n4:Int)(l5:List Nat)(l6:List (List Int)):Zaa:=[(93038,{ base:=0,blks:=[Blk.row 25 1 (Row.refs 1000093 l5)] }),(1000093,{ base:=0,blks:=[],sym:=Sym.ints 3 1 .i64 l6 })]
abbrev ZkG(z n0:Int)(x3:List AV)(n4:Int)(l5:List Nat)(l6:List (List Int)):List AFrame×Zaa:=(Zjn z n0 x3 n4 l5 l6,Zgf z n0 x3 n4 l5 l6)
def ZxX(A:Ar)(K:KT)(F:FT)(f z:Int):Prop:=bB (A.eq z 0) (rB [List.all [AV.nils] fun x=>AV.bx x&&Nat.beq (Zag A x) 1] (F (AV.row 0 0) (some { e:=25,sz:=1,r:=Row.gen [AV.nils] }))) (K (Zke (z) (f) ([]) ([])))
theorem ZDQ{N:Nat}{A:Ar}{K:KT}{F:FT}{M:MT}{f z:Int} :Zal A tab (Kn N) 93 K F M (.run 11 (.tf (.run 6 (.fn)) (.run 15 (.hd)))) (ZKM f z) []=ZxX A K F f z:=by kernel_rfl
def Zg0(N:Nat)(A:Ar)(K:KT)(F:FT)(z n0:Int)(l1:List Nat)(l2:List (List Int)):Prop:=bB (A.lt n0 15) (rB [seB N (A.add n0 1) (A.sub z 1),A.inR .i64 (A.sub z 1),A.inR .i64 (A.add n0 1)] (K (ZkG (z) (n0) (Znn (A.add n0 1) (A.sub z 1)) (0) (l1) (l2)))) (F (AV.list (Row.gen (List.map (fun j=>AV.list (.ints .i64 (List.getD l2 j []))) l1))) (none))
theorem ZkK{N:Nat}{A:Ar}{K:KT}{F:FT}{M:MT}{z n0:Int}{l1:List Nat}{l2:List (List Int)} :Zal A tab (Kn N) 93 K F M (.run 7 (.tf (.run 19 (.hd)) (.run 7 (.fn)))) (Zfv z n0 l1 l2) (Zev z n0 l1 l2)=Zg0 N A K F z n0 l1 l2:=by kernel_rfl
def Zgh(A:Ar)(K:KT)(F:FT)(z n0:Int)(x3:List AV)(n4:Int)(l5:List Nat)(l6:List (List Int)):Prop:=bB (A.lt n4 (A.int (A.lenA x3))) (rB [A.inR .i64 (A.add n4 1),Nat.ble (A.lenF l5+A.lenF [0+List.length (List.map (fun l=>Blk.row 3 1 (.ints .i64 l)) l6)]) 4294967296,List.all [AV.row 1000093 (0+List.length (List.map (fun l=>Blk.row 3 1 (.ints .i64 l)) l6))] fun x=>AV.bx x&&Nat.beq (Zag A x) 1,Nat.ble (A.len [n0]+A.len (AV.toIs (A.nthA x3 (A.nat n4)))) 4294967296,Zad (Zad (A.le 0 n4) (Nat.blt (A.nat n4) (A.lenA x3))) true,List.all [AV.int .i64 n0] fun x=>AV.bx x&&Nat.beq (Zag A x) 1] (K (ZkG (z) (n0) (x3) (A.add n4 1) (A.appF l5 [0+List.length (List.map (fun l=>Blk.row 3 1 (.ints .i64 l)) l6)]) (List.append l6 [A.app [n0] (AV.toIs (A.nthA x3 (A.nat n4)))])))) (rB [A.inR .i64 (A.add n0 1)] (K (Zke (z) (A.add n0 1) (l5) (l6))))
theorem Zj7{N:Nat}{A:Ar}{K:KT}{F:FT}{M:MT}{z n0:Int}{x3:List AV}{n4:Int}{l5:List Nat}{l6:List (List Int)} :Zal A tab (Kn N) 93 K F M (.run 9 (.tf (.run 24 (.hd)) (.run 9 (.hd)))) (Zjn z n0 x3 n4 l5 l6) (Zgf z n0 x3 n4 l5 l6)=Zgh A K F z n0 x3 n4 l5 l6:=by kernel_rfl
end Go.Proofs.Ytklbmkllepkjcaa
/- All sets of positions. No condition. -/
namespace Go.Proofs.Ytklbmkllepkjcaa
theorem ZuM(L:List (List Int)):((List.range L.length).map fun j=>AV.list (.ints .i64 (L.getD j [])))=L.map fun l=>AV.list (.ints .i64 l):=by
 apply List.ext_getElem?
 intro i
 rw[List.getElem?_map,List.getElem?_map]
 by_cases hi:i<L.length
 ·rw[List.getElem?_range hi,List.getElem?_eq_getElem hi,Option.map_some,Option.map_some,List.getD_eq_getElem?_getD,List.getElem?_eq_getElem hi];rfl
 ·rw[List.getElem?_eq_none (by simp;omega),List.getElem?_eq_none (by omega)];rfl
def Zm5(Z f n:Nat):List (List Int):=(List.range n).flatMap fun i=>(ZaD Z (f+i+1)).map fun l=>((f+i:Nat):Int)::l
theorem Zji(Z f n:Nat):Zm5 Z f (n+1)=Zm5 Z f n++(ZaD Z (f+n+1)).map fun l=>((f+n:Nat):Int)::l:=by
 unfold Zm5
 rw[List.range_succ,List.flatMap_append];simp
theorem Zo3(f z:Int):(Znn f z).length=(ZaD z.toNat f.toNat).length:=by unfold Znn;simp
theorem Zo6(f z:Int)(k:Nat):((Znn f z).getD k .top).toIs=(ZaD z.toNat f.toNat).getD k []:=by
 unfold Znn
 rw[List.getD_eq_getElem?_getD,List.getElem?_map,List.getD_eq_getElem?_getD]
 by_cases hk:k<(ZaD z.toNat f.toNat).length
 ·rw[List.getElem?_eq_getElem hk];rfl
 ·rw[List.getElem?_eq_none (by omega)];rfl
theorem Zg7:∀(Z f:Nat),(ZaD Z f).length≤15^Z∧∀l∈ZaD Z f,l.length=Z
 |0,_=>by simp[ZaD]
 |Z+1,f=>by
  have key:∀n,n≤15→(Zm5 Z f n).length≤n*15^Z∧∀l∈Zm5 Z f n,l.length=Z+1:=by
   intro n
   induction n with
   |zero=>intro _;simp[Zm5]
   |succ n ih=>
    intro hn
    obtain⟨a,b⟩:=ih (by omega)
    obtain⟨c,d⟩:=Zg7 Z (f+n+1)
    rw[Zji]
    refine⟨by rw[List.length_append,List.length_map,Nat.add_mul];omega,fun l hl=>?_⟩
    rcases List.mem_append.1 hl with h |h
    ·exact b l h
    ·obtain⟨y,hy,rfl⟩:=List.mem_map.1 h
     rw[List.length_cons,d y hy]
  obtain⟨a,b⟩:=key (15-f) (by omega)
  have e:ZaD (Z+1) f=Zm5 Z f (15-f):=rfl
  rw[e]
  refine⟨Nat.le_trans a ?_,b⟩
  rw[Nat.pow_succ,Nat.mul_comm]
  exact Nat.mul_le_mul_left _ (by omega)
section
variable {C:Ctx}(hC:C.P=Try.prog)(N:Nat)(hK:Zaz Try.prog (Kn N))
include hC hK
theorem ZHv(Z i:Nat)(hZ:Z≤2)(hi:i<15)(L:List (List Int))(hL:L.length≤100000)(r:AV)
 (hn:Ev C (Zfv ((Z+1:Nat):Int) ((i+1:Nat):Int) (List.range (L++(ZaD Z (i+1)).map fun l=>((i:Nat):Int)::l).length) (L++(ZaD Z (i+1)).map fun l=>((i:Nat):Int)::l)) (Zev ((Z+1:Nat):Int) ((i+1:Nat):Int) (List.range (L++(ZaD Z (i+1)).map fun l=>((i:Nat):Int)::l).length) (L++(ZaD Z (i+1)).map fun l=>((i:Nat):Int)::l)) (ZaL 93 r none)):
 ∀(c k:Nat),k+c=(ZaD Z (i+1)).length→Ev C (Zjn ((Z+1:Nat):Int) i (Znn ((i:Int)+1) (Z:Int)) k (List.range (L++((ZaD Z (i+1)).take k).map fun l=>((i:Nat):Int)::l).length) (L++((ZaD Z (i+1)).take k).map fun l=>((i:Nat):Int)::l)) (Zgf ((Z+1:Nat):Int) i (Znn ((i:Int)+1) (Z:Int)) k (List.range (L++((ZaD Z (i+1)).take k).map fun l=>((i:Nat):Int)::l).length) (L++((ZaD Z (i+1)).take k).map fun l=>((i:Nat):Int)::l)) (ZaL 93 r none):=by
 have sv:=Zo3 ((i:Int)+1) (Z:Int)
 rw[Int.toNat_natCast,show((i:Int)+1).toNat=i+1 by omega]at sv
 obtain⟨s1,s2⟩:=Zg7 Z (i+1)
 have hp:15^Z≤15^2:=Nat.pow_le_pow_right (by omega) hZ
 intro c
 induction c with
 |zero=>
  intro k hk
  refine tgo hC hK Zj7 ?_
  rw[List.take_of_length_le (by omega)]
  generalize (L++(ZaD Z (i+1)).map fun l=>((i:Nat):Int)::l)=M at hn⊢
  simp[-List.getD_eq_getElem?_getD,Zgh,sv,show ¬(k:Int)<((ZaD Z (i+1)).length:Int) by omega]at hn⊢
  exact⟨by omega,hn⟩
 |succ c ih=>
  intro k hk
  have hlt:k<(ZaD Z (i+1)).length:=by omega
  have i0:=ih (k+1) (by omega)
  have g:=Zo6 ((i:Int)+1) (Z:Int) k
  rw[Int.toNat_natCast,show((i:Int)+1).toNat=i+1 by omega]at g
  have tl:(ZaD Z (i+1)).take (k+1)=(ZaD Z (i+1)).take k++[(ZaD Z (i+1)).getD k []]:=Zrb hlt
  rw[tl,List.map_append,←List.append_assoc]at i0
  have ml:(L++((ZaD Z (i+1)).take k).map fun l=>((i:Nat):Int)::l).length≤200000:=by
   rw[List.length_append,List.length_map,List.length_take];omega
  have gl:((ZaD Z (i+1)).getD k []).length=Z:=s2 _ (ZbC hlt)
  generalize (L++((ZaD Z (i+1)).take k).map fun l=>((i:Nat):Int)::l)=M at i0 ml⊢
  rw[List.length_append,List.map_cons,List.map_nil,List.length_singleton,List.range_succ]at i0
  refine tgo hC hK Zj7 ?_
  simp only[Zgh,Zsh,ZaO,Int.toNat_natCast,g]
  simp[-List.getD_eq_getElem?_getD,sv,hlt,gl,AV.bx,Zag,show(k:Int)<((ZaD Z (i+1)).length:Int) by omega]at i0⊢
  exact⟨by omega,i0⟩
theorem ZFP(Z f:Nat)(hZ:Z≤2)(hN:Z<N):∀(c n:Nat),f+n+c=15→Ev C (Zfv ((Z+1:Nat):Int) ((f+n:Nat):Int) (List.range (Zm5 Z f n).length) (Zm5 Z f n)) (Zev ((Z+1:Nat):Int) ((f+n:Nat):Int) (List.range (Zm5 Z f n).length) (Zm5 Z f n)) (ZaL 93 (.list (.gen ((ZaD (Z+1) f).map fun l=>.list (.ints .i64 l)))) none):=by
 intro c
 induction c with
 |zero=>
  intro n hc
  refine tgo hC hK ZkK ?_
  have e:ZaD (Z+1) f=Zm5 Z f n:=by rw[show n=15-f by omega];rfl
  rw[e]
  simp only[Zg0,ZuM]
  simp[-List.getD_eq_getElem?_getD,show ¬((f:Int)+(n:Int))<15 by omega]
 |succ c ih=>
  intro n hc
  have i0:=ih (n+1) (by omega)
  rw[Zji,show f+(n+1)=f+n+1 by omega]at i0
  have pl:(Zm5 Z f n).length≤100000:=by
   have key:∀n,n≤15→(Zm5 Z f n).length≤n*225:=by
    intro n
    induction n with
    |zero=>intro _;simp[Zm5]
    |succ n ih2=>
     intro hn
     have a:=ih2 (by omega)
     obtain⟨c,_⟩:=Zg7 Z (f+n+1)
     have hp:15^Z≤15^2:=Nat.pow_le_pow_right (by omega) hZ
     rw[Zji,List.length_append,List.length_map,Nat.add_mul];omega
   have:=key n (by omega)
   omega
  have i1:=ZHv hC N hK Z (f+n) hZ (by omega) (Zm5 Z f n) pl _ i0 (ZaD Z (f+n+1)).length 0 (by omega)
  have sb:seB N (((f+n:Nat):Int)+1) (((Z+1:Nat):Int)-1)=true:=decide_eq_true (by omega)
  have z1:((Z+1:Nat):Int)-1=((Z:Nat):Int):=by omega
  have hlt:((f+n:Nat):Int)<15:=by omega
  rw[z1]at sb
  refine tgo hC hK ZkK ?_
  simp only[Zg0,ZlT,ZmU,z1,sb,ZHL,decide_eq_true hlt,Zv0,ZuH,if_true]
  simp only[List.take_zero,List.map_nil,List.append_nil]at i1
  exact⟨by simp;omega,i1⟩
end
theorem Zsf{f:FuncId}{args:List AV}{e sz:Nat}{r r':Row}(h:Zai Try.prog f args (.row 0 0) (some ⟨e,sz+1,r⟩))(hp:r.pure=true)(hs:r.solid=true)(hw:∀ {w:World} {ok:Nat→Prop} {hh:Zaa} {L:Lay} {x:Value},Rel w ok hh L (.list r) x→Rel w ok hh L (.list r') x):Zai Try.prog f args (.list r') none:=by
 intro w okA L vs hargs hok hG
 refine(h w okA L vs hargs hok hG).mono ?_
 rintro e' w' ⟨x,L',rfl,hb,hpo⟩
 refine⟨x,L',rfl,hb,?_⟩
 obtain⟨H,hr⟩:HRel (Ctx.of Try.prog w okA []) (Zaq (some ⟨e,sz+1,r⟩)) L' w'∧Zat (Ctx.of Try.prog w okA []) (Zaq (some ⟨e,sz+1,r⟩)) L' w' (.row 0 0) x:=hpo
 show HRel (Ctx.of Try.prog w okA []) (Zaq none) L' w'∧Zat (Ctx.of Try.prog w okA []) (Zaq none) L' w' (.list r') x
 refine⟨H.nil,?_⟩
 have q:=ZfS H (Frz1.row _ rfl hp hs) hr
 exact hw (q.okmono (fun g _ ho=>ho.elim (fun y=>y.2.elim) (fun y=>.inr y)))
theorem ZzU{w:World}{ok:Nat→Prop}{hh:Zaa}{L:Lay}{x:Value}(hr:Rel w ok hh L (.list (.gen [.nils])) x):Rel w ok hh L (.list (.big (.ints .i64) [.list (.ints .i64 [])])) x:=by
 cases hr with
 |nil _ a c h0=>cases h0
 |list _ xs hx ad n cap sz cs hb hok hn hcap hsz hl h1 hc hp hrr=>
  subst hx
  refine .list _ [.list (.ints .i64 [])] rfl ad n cap sz cs hb hok hn hcap (fun z hz=>?_) (hl.trans rfl) h1 hc rfl (fun j u v hu hv=>?_)
  ·have:=hsz .nils (by simp[Row.elems])
   have hz:z=.list (.ints .i64 []):=by simpa using hz
   subst hz;exact this
  ·cases j with
   |zero=>
    have hq:=hrr 0 .nils v rfl hv
    have hu:AV.list (.ints .i64 [])=u:=by simpa[Zae,AV.flat]using hu
    subst hu
    cases hq with
    |nils=>exact .nil _ none 0 rfl
   |succ j=>simp[Zae,AV.flat]at hu
theorem Zrr(f:Int):Znn f 0=[.list (.ints .i64 [])]:=by unfold Znn;rfl
theorem Zv4(N:Nat)(hK:Zaz Try.prog (Kn N))(f z:Int)(h:seB (N+1) f z=true)(h3:z≤3):Zai Try.prog 93 [.int .i64 f, .int .i64 z] (.list (.big (.ints .i64) (Znn f z))) none:=by
 have h:=of_decide_eq_true h
 by_cases hz:z=0
 ·subst hz
  rw[Zrr]
  refine Zsf (r:=.gen [.nils]) (e:=25) (sz:=0) ?_ rfl rfl ZzU
  exact start (Zru f 0) fun C hC=>tgo hC hK ZDQ (by simp[ZxX,AV.bx,Zag])
 ·obtain⟨Z,hZ⟩:∃Z:Nat,z=((Z+1:Nat):Int):=⟨z.toNat-1,by omega⟩
  obtain⟨F,rfl⟩:=Int.eq_ofNat_of_zero_le h.1
  subst hZ
  have q:Zai Try.prog 93 [.int .i64 (F:Int), .int .i64 ((Z+1:Nat):Int)] (.list (.gen ((ZaD (Z+1) F).map fun l=>.list (.ints .i64 l)))) none:=by
   refine start (Zru _ _) fun C hC=>tgo hC hK ZDQ ?_
   have i:=ZFP hC N hK Z F (by omega) (by omega) (15-F) 0 (by omega)
   simp[ZxX,Zm5,show ¬((Z:Int)+1=0) by omega]at i⊢
   exact i
  refine Zr5 q ?_
  unfold Znn
  rw[Int.toNat_natCast,Int.toNat_natCast]
  simp only[Row.elems,List.map_map]
  exact List.map_congr_left fun _ _=>rfl
theorem Zw6:∀N:Nat,N≤4→(k93 N).OK Try.prog
 |0,_=>fun pa args r fr h=>by
  simp only[k93]at h
  split at h
  ·simp only[Option.some.injEq,Prod.mk.injEq]at h
   obtain⟨a,_⟩:=h
   have:=of_decide_eq_true a
   omega
  ·cases h
 |N+1,hN=>fun pa args r fr h=>by
  have ih:=Zw6 N (by omega)
  simp only[k93]at h
  split at h
  ·simp only[Option.some.injEq,Prod.mk.injEq]at h
   obtain⟨a,rfl,rfl⟩:=h
   have b:=of_decide_eq_true a
   exact Zv4 N ⟨ih,ZDa⟩ _ _ a (by omega)
  ·cases h
def Kl:List Ctr:=k93 4::Kk
theorem ZqM:Zaz Try.prog Kl:=⟨Zw6 4 (Nat.le_refl _),ZDa⟩
end Go.Proofs.Ytklbmkllepkjcaa
/- Paths of functions, printed by the explorer (Gx). No condition. -/
namespace Go.Proofs.Ytklbmkllepkjcaa
set_option maxRecDepth 100000
set_option linter.unusedVariables false
def ZDC(h:Int)(w:List Int):AFrame:={ fn:=44,N:=38,env:=[(0,AV.int .i64 h),(1,AV.list (.ints .i64 w))],todo:=[.code a44.code],defs:=[],rnd:=none,ret:=false,res:=[ARes.tmp 4,ARes.tmp 5,ARes.tmp 6] }
def ZKh(h:Int)(w:List Int):List AFrame:=[(ZDC h w)]
theorem Zyi(h:Int)(w:List Int):Zau tab 44 [AV.int .i64 h,AV.list (.ints .i64 w)]=some (ZDC h w):=rfl
def ZfF(h:Int)(w:List Int)(n0:Int):List AFrame:=[{ fn:=44,N:=38,env:=[(0,AV.int .i64 h),(1,AV.list (.ints .i64 w)),(7,AV.int .i64 n0)],todo:=.code (ACode.gh [] ZBP)::ZGP,defs:=[],rnd:=none,ret:=false,res:=[ARes.tmp 4,ARes.tmp 5,ARes.tmp 6] }]
def ZeA(h:Int)(w:List Int)(n0:Int):Zaa:=[]
abbrev Zk3(h:Int)(w:List Int)(n0:Int):List AFrame×Zaa:=(ZfF h w n0,ZeA h w n0)
def Zix(h:Int)(w:List Int)(n0 n1:Int)(x2:List AV):List AFrame:=[{ fn:=44,N:=38,env:=[(0,AV.int .i64 h),(1,AV.list (.ints .i64 w)),(7,AV.int .i64 n0),(8,AV.list (Row.big (.ints .i64) x2)),(9,AV.int .i64 n1)],todo:=.code (ACode.gh [] ZCB)::ZGe,defs:=[],rnd:=none,ret:=false,res:=[ARes.tmp 4,ARes.tmp 5,ARes.tmp 6] }]
def ZgK(h:Int)(w:List Int)(n0 n1:Int)(x2:List AV):Zaa:=[]
abbrev ZkE(h:Int)(w:List Int)(n0 n1:Int)(x2:List AV):List AFrame×Zaa:=(Zix h w n0 n1 x2,ZgK h w n0 n1 x2)
def ZDI(A:Ar)(K:KT)(F:FT)(h:Int)(w:List Int):Prop:=K (Zk3 (h) (w) (0))
theorem ZIn{A:Ar}{K:KT}{F:FT}{M:MT}{h:Int}{w:List Int} :Zal A tab Kl 44 K F M (.run 14 (.hd)) (ZKh h w) []=ZDI A K F h w:=by kernel_rfl
def Zf7(A:Ar)(K:KT)(F:FT)(h:Int)(w:List Int)(n0:Int):Prop:=bB (A.le n0 h) (rB [seB 4 0 n0] (K (ZkE (h) (w) (n0) (0) (Znn 0 n0)))) (F (AV.tup [AV.nils,AV.int .i64 0,AV.bool false]) (none))
theorem Zk9{A:Ar}{K:KT}{F:FT}{M:MT}{h:Int}{w:List Int}{n0:Int} :Zal A tab Kl 44 K F M (.run 8 (.tf (.run 16 (.hd)) (.run 8 (.fn)))) (ZfF h w n0) (ZeA h w n0)=Zf7 A K F h w n0:=by kernel_rfl
def Zel(A:Ar)(K:KT)(F:FT)(h:Int)(w:List Int)(n0 n1:Int)(x2:List AV):Prop:=bB (A.lt n1 (A.int (A.lenA x2))) (rB [decide (fiG w h (AV.toIs (A.nthA x2 (A.nat n1)))=true),Zad (Zad (A.le 0 n1) (Nat.blt (A.nat n1) (A.lenA x2))) true] (bB (isW h (fiW h w (AV.toIs (A.nthA x2 (A.nat n1))))) (F (AV.tup [AV.row 0 0,AV.int .i64 n0,AV.bool true]) (some { e:=3,sz:=1,r:=.ints .i64 (fiW h w (AV.toIs (A.nthA x2 (A.nat n1)))) })) (rB [A.inR .i64 (A.add n1 1)] (K (ZkE (h) (w) (n0) (A.add n1 1) (x2)))))) (rB [A.inR .i64 (A.add n0 1)] (K (Zk3 (h) (w) (A.add n0 1))))
theorem Zj3{A:Ar}{K:KT}{F:FT}{M:MT}{h:Int}{w:List Int}{n0 n1:Int}{x2:List AV} :Zal A tab Kl 44 K F M (.run 9 (.tf (.run 23 (.tf (.run 9 (.fn)) (.run 9 (.hd)))) (.run 9 (.hd)))) (Zix h w n0 n1 x2) (ZgK h w n0 n1 x2)=Zel A K F h w n0 n1 x2:=by kernel_rfl
end Go.Proofs.Ytklbmkllepkjcaa
/- Contracts as a list. No condition. -/
namespace Go.Proofs.Ytklbmkllepkjcaa
def rd1(h:Int)(w:List Int):List (List Int)→Option (List Int)
 |[]=>none
 |l::ls=>if isW h (fiW h w l)=true then some (fiW h w l)else rd1 h w ls
def rdR(h:Int)(w:List Int):Nat→Nat→Option (List Int×Nat)
 |0,_=>none
 |k+1,z=>match rd1 h w (ZaD z 0)with
  |some x=>some (x,z)
  |none=>rdR h w k (z+1)
@[irreducible] def rdO (h:Int) (w:List Int):Option (List Int×Nat):=rdR h w (h.toNat+1) 0
def rdA:Option (List Int×Nat)→AV
 |none=>.tup [.list (.ints .i64 []), .int .i64 0, .bool false]
 |some (x,z)=>.tup [.list (.ints .i64 x), .int .i64 z, .bool true]
@[irreducible] def rdV (h:Int) (w:List Int):List Int:=match rdO h w with |none=>[] |some (x,_)=>x
@[irreducible] def rdN (h:Int) (w:List Int):Int:=match rdO h w with |none=>0 |some (_,z)=>(z:Int)
theorem ZFc(h:Int)(w:List Int):rdA (rdO h w)=.tup [.list (.ints .i64 (rdV h w)), .int .i64 (rdN h w), .bool (rdO h w).isSome]:=by
 unfold rdV rdN
 cases rdO h w with
 |none=>rfl
 |some p=>rfl
theorem Ztp:∀(Z f:Nat) (l:List Int),l∈ZaD Z f→∀p:Int,p<f→erP p l=0
 |0,_,l,hl,_,_=>by
  have:l=[]:=by simpa[ZaD]using hl
  subst this;rfl
 |Z+1,f,l,hl,p,hp=>by
  unfold ZaD at hl
  obtain⟨i,hi,hl⟩:=List.mem_flatMap.1 hl
  obtain⟨y,hy,rfl⟩:=List.mem_map.1 hl
  have hi:=List.mem_range.1 hi
  rw[erP,if_pos (show Zao ((f+i:Nat):Int) 0 14=true from decide_eq_true (by omega)),if_pos (by omega)]
  exact Ztp Z (f+i+1) y hy _ (by omega)
theorem ZnN{h:Int}{w:List Int}(hw:okw w=true)(hh:hfB h=true){Z:Nat}(hZ:Z≤2*h.toNat){l:List Int}(hl:l∈ZaD Z 0):fiG w h l=true:=by
 have h2:=of_decide_eq_true hh
 have:=(Zg7 Z 0).2 l hl
 unfold fiG
 rw[Bool.and_eq_true,Bool.and_eq_true]
 refine⟨hw,hh,decide_eq_true ?_⟩
 unfold erE
 rw[if_neg (by omega)]
 exact Ztp Z 0 l hl _ (by omega)
section
variable {C:Ctx}(hC:C.P=Try.prog)(h:Int)(w:List Int)(hw:okw w=true)(hh:hfB h=true)
include hC hw hh
theorem ZGd(Z:Nat)(hZ:(Z:Int)≤h)(r:AV)
 (hn:rd1 h w (ZaD Z 0)=none→Ev C (ZfF h w ((Z+1:Nat):Int)) (ZeA h w ((Z+1:Nat):Int)) (ZwK 44 r)) (hf:∀x,rd1 h w (ZaD Z 0)=some x→r=rdA (some (x,Z))):
 ∀(c k:Nat),k+c=(ZaD Z 0).length→rd1 h w ((ZaD Z 0).drop k)=rd1 h w (ZaD Z 0)→Ev C (Zix h w Z k (Znn 0 Z)) (ZgK h w Z k (Znn 0 Z)) (ZwK 44 r):=by
 have h2:=of_decide_eq_true hh
 have sv:=Zo3 0 (Z:Int)
 rw[Int.toNat_natCast,show(0:Int).toNat=0 from rfl]at sv
 have sz:=(Zg7 Z 0).1
 have hp:15^Z≤15^3:=Nat.pow_le_pow_right (by omega) (by omega)
 intro c
 induction c with
 |zero=>
  intro k hk he
  rw[List.drop_of_length_le (by omega)]at he
  have i0:=hn he.symm
  refine ZED hC ZqM Zj3 ?_
  simp[-List.getD_eq_getElem?_getD,Zel,sv,show ¬(k:Int)<((ZaD Z 0).length:Int) by omega]at i0⊢
  exact⟨by omega,i0⟩
 |succ c ih=>
  intro k hk he
  have hlt:k<(ZaD Z 0).length:=by omega
  have g:=Zo6 0 (Z:Int) k
  rw[Int.toNat_natCast,show(0:Int).toNat=0 from rfl]at g
  have dk:(ZaD Z 0).drop k=(ZaD Z 0).getD k []::(ZaD Z 0).drop (k+1):=by
   rw[List.drop_eq_getElem_cons hlt,List.getD_eq_getElem?_getD,List.getElem?_eq_getElem hlt];rfl
  rw[dk,rd1]at he
  have hg:=ZnN hw hh (Z:=Z) (by omega) (ZbC (d:=[]) hlt)
  refine ZED hC ZqM Zj3 ?_
  by_cases hq:isW h (fiW h w ((ZaD Z 0).getD k []))=true
  ·rw[if_pos hq]at he
   have hr:=hf _ he.symm
   subst hr
   simp only[Zel,Zsh,ZaO,Int.toNat_natCast,g]
   simp[-List.getD_eq_getElem?_getD,sv,hlt,hg,hq,rdA]
   exact⟨_, .same _, .tup ⟨.row _ rfl rfl rfl, .same _ rfl rfl, .same _ rfl rfl,trivial⟩,rfl⟩
  ·rw[if_neg hq]at he
   have i0:=ih (k+1) (by omega) he
   simp only[Zel,Zsh,ZaO,Int.toNat_natCast,g]
   simp[-List.getD_eq_getElem?_getD,sv,hlt,hg,hq]at i0⊢
   exact⟨by omega,i0⟩
theorem ZHx:∀(c z:Nat),(z:Int)+c=h+1→Ev C (ZfF h w z) (ZeA h w z) (ZwK 44 (rdA (rdR h w c z))):=by
 have h2:=of_decide_eq_true hh
 intro c
 induction c with
 |zero=>
  intro z hz
  refine ZED hC ZqM Zk9 ?_
  simp[-List.getD_eq_getElem?_getD,Zf7,rdR,rdA,show ¬(z:Int)≤h by omega]
  exact⟨_, .same _, .tup ⟨.nil _ rfl, .same _ rfl rfl, .same _ rfl rfl,trivial⟩,rfl⟩
 |succ c ih=>
  intro z hz
  have i0:=ih (z+1) (by omega)
  have i1:=ZGd hC h w hw hh z (by omega) (rdA (rdR h w (c+1) z)) (fun hn=>by rw[rdR,hn];exact i0) (fun x hx=>by rw[rdR,hx]) (ZaD z 0).length 0 (by omega) (by rw[List.drop_zero])
  have sb:seB 4 0 (z:Int)=true:=decide_eq_true (by omega)
  refine ZED hC ZqM Zk9 ?_
  simp[-List.getD_eq_getElem?_getD,Zf7,sb,show(z:Int)≤h by omega]at i1⊢
  exact i1
end
theorem Zus(h:Int)(w:List Int)(hw:okw w=true)(hh:hfB h=true):Zai Try.prog 44 [.int .i64 h, .list (.ints .i64 w)] (.tup [.list (.ints .i64 (rdV h w)), .int .i64 (rdN h w), .bool (rdO h w).isSome]) Zvc:=by
 have h2:=of_decide_eq_true hh
 rw[←ZFc]
 refine ZEN (Zyi h w) fun C hC=>ZED hC ZqM ZIn ?_
 have i:=ZHx hC h w hw hh (h.toNat+1) 0 (by omega)
 simp[ZDI,rdO]at i⊢
 exact i
def k44:Ctr:=⟨44,0,fun _ a=>match a with |[.int .i64 h, .list (.ints .i64 w)]=>some (decide (hfB h=true∧okw w=true), .tup [.list (.ints .i64 (rdV h w)), .int .i64 (rdN h w), .bool (rdO h w).isSome],Zvc) |_=>none⟩
theorem ZDx:k44.OK Try.prog:=fun pa args r fr h=>by
 simp only[k44]at h
 split at h
 ·simp only[Option.some.injEq,Prod.mk.injEq,decide_eq_true_eq]at h
  obtain⟨h0,rfl,rfl⟩:=h
  exact Zus _ _ h0.2 h0.1
 ·cases h
def Km:List Ctr:=[k44]++Kl
theorem ZrF:Zaz Try.prog Km:=⟨ZDx,ZqM⟩
end Go.Proofs.Ytklbmkllepkjcaa
