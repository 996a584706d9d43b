/- The end of a merge: the two halves. No condition. -/
import Derived.Test.YtjhdnpmojhkbjaaPf
import Derived.KernelRfl
namespace Go.Proofs.Ytjhdnpmojhkbjaa
theorem ZB2{C:Ctx}(hC:C.P=Try.prog){N:Nat}(hK:Zap Try.prog (BO5 N))(xs Z1 Z2 Z3:List AV)(a m b mid n st r p:Int)(hst:¬st<r)(hin: -1000000≤n-st∧n-st≤1000000)
 (hrot:if st<m∧m<n-st then Zns xs st m (n-st)=true∧Zhj st.toNat m.toNat (n-st).toNat xs=Z1 else xs=Z1)
 (hle:if a<st∧st<mid then smB N Z1 a st mid=true∧Zbm a.toNat mid.toNat Z1=Z2 else Z1=Z2)
 (hri:if mid<n-st∧n-st<b then smB N Z2 mid (n-st) b=true∧Zbm mid.toNat b.toNat Z2=Z3 else Z2=Z3):
 Ev C (Zah xs a m b mid n st r p) (Zag xs a m b mid n st r p) (Zho 140 140 5 (.big shN Z3) (.tup [])):=by
 have hi:std.inR .i64 (std.sub n st)=true:=by
  simp;omega
 have hi':std.inR .i64 (n-st)=true:=hi
 by_cases h1:st<m
 ·by_cases h2:m<n-st
  ·rw[if_pos ⟨h1,h2⟩]at hrot
   obtain⟨g1,e1⟩:=hrot
   subst e1
   by_cases h3:a<st
   ·by_cases h4:st<mid
    ·rw[if_pos ⟨h3,h4⟩]at hle
     obtain⟨g2,e2⟩:=hle
     subst e2
     by_cases h5:mid<n-st
     ·by_cases h6:n-st<b
      ·rw[if_pos ⟨h5,h6⟩]at hri
       obtain⟨g3,e3⟩:=hri
       subst e3
       exact ZdB hC hK (ZyT std N xs a m b mid n st r p) (by simp only[ZaD,ZeR,g1,g2,g3,h1,h2,h3,h4,h5,h6,hst,hi'];simp) rfl rfl rfl rfl
      ·rw[if_neg (fun h=>h6 h.2)]at hri
       subst hri
       exact ZdB hC hK (ZwY std N xs a m b mid n st r p) (by simp only[ZaD,ZeR,g1,g2,h1,h2,h3,h4,h5,h6,hst,hi'];simp) rfl rfl rfl rfl
     ·rw[if_neg (fun h=>h5 h.1)]at hri
      subst hri
      exact ZdB hC hK (Zxo std N xs a m b mid n st r p) (by simp only[ZaD,ZeR,g1,g2,h1,h2,h3,h4,h5,hst,hi'];simp) rfl rfl rfl rfl
    ·rw[if_neg (fun h=>h4 h.2)]at hle
     subst hle
     by_cases h5:mid<n-st
     ·by_cases h6:n-st<b
      ·rw[if_pos ⟨h5,h6⟩]at hri
       obtain⟨g3,e3⟩:=hri
       subst e3
       exact ZdB hC hK (Zw6 std N xs a m b mid n st r p) (by simp only[ZaD,ZeR,g1,g3,h1,h2,h3,h4,h5,h6,hst,hi'];simp) rfl rfl rfl rfl
      ·rw[if_neg (fun h=>h6 h.2)]at hri
       subst hri
       exact ZdB hC hK (ZzZ std N xs a m b mid n st r p) (by simp only[ZaD,ZeR,g1,h1,h2,h3,h4,h5,h6,hst,hi'];simp) rfl rfl rfl rfl
     ·rw[if_neg (fun h=>h5 h.1)]at hri
      subst hri
      exact ZdB hC hK (Zxw std N xs a m b mid n st r p) (by simp only[ZaD,ZeR,g1,h1,h2,h3,h4,h5,hst,hi'];simp) rfl rfl rfl rfl
   ·rw[if_neg (fun h=>h3 h.1)]at hle
    subst hle
    by_cases h5:mid<n-st
    ·by_cases h6:n-st<b
     ·rw[if_pos ⟨h5,h6⟩]at hri
      obtain⟨g3,e3⟩:=hri
      subst e3
      exact ZdB hC hK (ZxN std N xs a m b mid n st r p) (by simp only[ZaD,ZeR,g1,g3,h1,h2,h3,h5,h6,hst,hi'];simp) rfl rfl rfl rfl
     ·rw[if_neg (fun h=>h6 h.2)]at hri
      subst hri
      exact ZdB hC hK (Zv6 std N xs a m b mid n st r p) (by simp only[ZaD,ZeR,g1,h1,h2,h3,h5,h6,hst,hi'];simp) rfl rfl rfl rfl
    ·rw[if_neg (fun h=>h5 h.1)]at hri
     subst hri
     exact ZdB hC hK (ZxQ std N xs a m b mid n st r p) (by simp only[ZaD,ZeR,g1,h1,h2,h3,h5,hst,hi'];simp) rfl rfl rfl rfl
  ·rw[if_neg (fun h=>h2 h.2)]at hrot
   subst hrot
   by_cases h3:a<st
   ·by_cases h4:st<mid
    ·rw[if_pos ⟨h3,h4⟩]at hle
     obtain⟨g2,e2⟩:=hle
     subst e2
     by_cases h5:mid<n-st
     ·by_cases h6:n-st<b
      ·rw[if_pos ⟨h5,h6⟩]at hri
       obtain⟨g3,e3⟩:=hri
       subst e3
       exact ZdB hC hK (Zx6 std N xs a m b mid n st r p) (by simp only[ZaD,ZeR,g2,g3,h1,h2,h3,h4,h5,h6,hst,hi'];simp) rfl rfl rfl rfl
      ·rw[if_neg (fun h=>h6 h.2)]at hri
       subst hri
       exact ZdB hC hK (Zxf std N xs a m b mid n st r p) (by simp only[ZaD,ZeR,g2,h1,h2,h3,h4,h5,h6,hst,hi'];simp) rfl rfl rfl rfl
     ·rw[if_neg (fun h=>h5 h.1)]at hri
      subst hri
      exact ZdB hC hK (ZzT std N xs a m b mid n st r p) (by simp only[ZaD,ZeR,g2,h1,h2,h3,h4,h5,hst,hi'];simp) rfl rfl rfl rfl
    ·rw[if_neg (fun h=>h4 h.2)]at hle
     subst hle
     by_cases h5:mid<n-st
     ·by_cases h6:n-st<b
      ·rw[if_pos ⟨h5,h6⟩]at hri
       obtain⟨g3,e3⟩:=hri
       subst e3
       exact ZdB hC hK (Zyd std N xs a m b mid n st r p) (by simp only[ZaD,ZeR,g3,h1,h2,h3,h4,h5,h6,hst,hi'];simp) rfl rfl rfl rfl
      ·rw[if_neg (fun h=>h6 h.2)]at hri
       subst hri
       exact ZdB hC hK (ZyG std N xs a m b mid n st r p) (by simp only[ZaD,ZeR,h1,h2,h3,h4,h5,h6,hst,hi'];simp) rfl rfl rfl rfl
     ·rw[if_neg (fun h=>h5 h.1)]at hri
      subst hri
      exact ZdB hC hK (ZAu std N xs a m b mid n st r p) (by simp only[ZaD,ZeR,h1,h2,h3,h4,h5,hst,hi'];simp) rfl rfl rfl rfl
   ·rw[if_neg (fun h=>h3 h.1)]at hle
    subst hle
    by_cases h5:mid<n-st
    ·by_cases h6:n-st<b
     ·rw[if_pos ⟨h5,h6⟩]at hri
      obtain⟨g3,e3⟩:=hri
      subst e3
      exact ZdB hC hK (Zyl std N xs a m b mid n st r p) (by simp only[ZaD,ZeR,g3,h1,h2,h3,h5,h6,hst,hi'];simp) rfl rfl rfl rfl
     ·rw[if_neg (fun h=>h6 h.2)]at hri
      subst hri
      exact ZdB hC hK (ZyS std N xs a m b mid n st r p) (by simp only[ZaD,ZeR,h1,h2,h3,h5,h6,hst,hi'];simp) rfl rfl rfl rfl
    ·rw[if_neg (fun h=>h5 h.1)]at hri
     subst hri
     exact ZdB hC hK (Zwr std N xs a m b mid n st r p) (by simp only[ZaD,ZeR,h1,h2,h3,h5,hst,hi'];simp) rfl rfl rfl rfl
 ·rw[if_neg (fun h=>h1 h.1)]at hrot
  subst hrot
  by_cases h3:a<st
  ·by_cases h4:st<mid
   ·rw[if_pos ⟨h3,h4⟩]at hle
    obtain⟨g2,e2⟩:=hle
    subst e2
    by_cases h5:mid<n-st
    ·by_cases h6:n-st<b
     ·rw[if_pos ⟨h5,h6⟩]at hri
      obtain⟨g3,e3⟩:=hri
      subst e3
      exact ZdB hC hK (Zyt std N xs a m b mid n st r p) (by simp only[ZaD,ZeR,g2,g3,h1,h3,h4,h5,h6,hst,hi'];simp) rfl rfl rfl rfl
     ·rw[if_neg (fun h=>h6 h.2)]at hri
      subst hri
      exact ZdB hC hK (Zzm std N xs a m b mid n st r p) (by simp only[ZaD,ZeR,g2,h1,h3,h4,h5,h6,hst,hi'];simp) rfl rfl rfl rfl
    ·rw[if_neg (fun h=>h5 h.1)]at hri
     subst hri
     exact ZdB hC hK (ZxZ std N xs a m b mid n st r p) (by simp only[ZaD,ZeR,g2,h1,h3,h4,h5,hst,hi'];simp) rfl rfl rfl rfl
   ·rw[if_neg (fun h=>h4 h.2)]at hle
    subst hle
    by_cases h5:mid<n-st
    ·by_cases h6:n-st<b
     ·rw[if_pos ⟨h5,h6⟩]at hri
      obtain⟨g3,e3⟩:=hri
      subst e3
      exact ZdB hC hK (Zwz std N xs a m b mid n st r p) (by simp only[ZaD,ZeR,g3,h1,h3,h4,h5,h6,hst,hi'];simp) rfl rfl rfl rfl
     ·rw[if_neg (fun h=>h6 h.2)]at hri
      subst hri
      exact ZdB hC hK (Zyk std N xs a m b mid n st r p) (by simp only[ZaD,ZeR,h1,h3,h4,h5,h6,hst,hi'];simp) rfl rfl rfl rfl
    ·rw[if_neg (fun h=>h5 h.1)]at hri
     subst hri
     exact ZdB hC hK (Zya std N xs a m b mid n st r p) (by simp only[ZaD,ZeR,h1,h3,h4,h5,hst,hi'];simp) rfl rfl rfl rfl
  ·rw[if_neg (fun h=>h3 h.1)]at hle
   subst hle
   by_cases h5:mid<n-st
   ·by_cases h6:n-st<b
    ·rw[if_pos ⟨h5,h6⟩]at hri
     obtain⟨g3,e3⟩:=hri
     subst e3
     exact ZdB hC hK (Zyi std N xs a m b mid n st r p) (by simp only[ZaD,ZeR,g3,h1,h3,h5,h6,hst,hi'];simp) rfl rfl rfl rfl
    ·rw[if_neg (fun h=>h6 h.2)]at hri
     subst hri
     exact ZdB hC hK (Zy2 std N xs a m b mid n st r p) (by simp only[ZaD,ZeR,h1,h3,h5,h6,hst,hi'];simp) rfl rfl rfl rfl
   ·rw[if_neg (fun h=>h5 h.1)]at hri
    subst hri
    exact ZdB hC hK (Zyy std N xs a m b mid n st r p) (by simp only[ZaD,ZeR,h1,h3,h5,hst,hi'];simp) rfl rfl rfl rfl
end Go.Proofs.Ytjhdnpmojhkbjaa
/- The search of a merge. No condition. -/
namespace Go.Proofs.Ytjhdnpmojhkbjaa
theorem ZHb(x:Int):std.shr x 1=x/2:=by
 rw[ZDr]
 show x.fdiv 2=x/2
 rw[Int.fdiv_eq_ediv_of_nonneg _ (by omega)]
def kAt(xs:List AV)(i:Int):Int:=Zaw (xs.getD i.toNat .top)
theorem ZkJ{C:Ctx}(hC:C.P=Try.prog){N:Nat}(hK:Zap Try.prog (BO5 N)){Q:List AFrame→Zaa→Prop}(xs:List AV)(a m b mid n p lo hi:Int)(hL:xs.length<1000000)(h0:0≤lo)(hhi:hi≤xs.length)(hp0:0≤p-hi+1)(hp1:p-lo<xs.length)
 (hq:∀st:Int,lo≤st→st≤hi→(lo<st→kAt xs (st-1)≤kAt xs (p-(st-1)))→(st<hi→kAt xs (p-st)<kAt xs st)→Ev C (Zah xs a m b mid n st st p) (Zag xs a m b mid n st st p) Q):
 ∀(d:Nat) (s r:Int),(r-s).toNat≤d→lo≤s→s≤r→r≤hi→(lo<s→kAt xs (s-1)≤kAt xs (p-(s-1)))→(r<hi→kAt xs (p-r)<kAt xs r)→Ev C (Zah xs a m b mid n s r p) (Zag xs a m b mid n s r p) Q:=by
 intro d
 induction d with
 |zero=>
  intro s r hd h1 h2 h3 h4 h5
  have:s=r:=by omega
  subst this
  exact hq s h1 h3 h4 h5
 |succ d ih=>
  intro s r hd h1 h2 h3 h4 h5
  by_cases he:s=r
  ·subst he
   exact hq s h1 h3 h4 h5
  ·have hc:std.shr (std.add s r) 1=(s+r)/2:=ZHb _
   obtain⟨c,hcd⟩:∃c,c=(s+r)/2:=⟨_,rfl⟩
   rw[←hcd]at hc
   have hc1:s≤c:=by omega
   have hc2:c<r:=by omega
   have u:std.inR .u64 (std.add s r)=true:=decide_eq_true ⟨show (0:Int)≤s+r by omega,show s+r≤18446744073709551615 by omega⟩
   have hk:decide (Zh9 (AV.toI (AV.cellAt (xs.getD (p-c).toNat .top) 4)) (AV.toI (AV.cellAt (xs.getD c.toNat .top) 4))<0)=decide (kAt xs (p-c)<kAt xs c):=ZfE _ _
   by_cases hlt:kAt xs (p-c)<kAt xs c
   ·have hw:=ZwZ std N xs a m b mid n s r p
    simp only[hc,ZaB,Zau,ZaD,ZeR,hk]at hw
    refine go hC hK hw ?_ (ih s c (by omega) h1 hc1 (by omega) h4 fun _=>hlt)
    simp only[u]
    simp[hlt]
    omega
   ·have hw:=Zxj std N xs a m b mid n s r p
    simp only[hc,ZaB,Zau,ZaD,ZeR,hk]at hw
    refine go hC hK hw ?_ (ih (c+1) r (by omega) (by omega) (by omega) h3 (fun _=>by rw[show c+1-1=c by omega];omega) h5)
    simp only[u]
    simp[hlt]
    omega
end Go.Proofs.Ytjhdnpmojhkbjaa
/- Segments by their indices. No condition. -/
namespace Go.Proofs.Ytjhdnpmojhkbjaa
theorem sortedB_iff:∀ {l:List AV},Zgi l=true↔Za7 l
 |[]=>by simp[Zgi,Za7]
 |x::l=>by
  unfold Zgi Za7
  rw[List.pairwise_cons,Bool.and_eq_true,sortedB_iff,List.all_eq_true]
  simp[Za7]
theorem ZGA(xs:List AV)(i j k:Nat)(h1:i+k<j)(h2:j≤xs.length):((xs.take j).drop i)[k]? =some (xs.getD (i+k) .top):=by
 rw[List.getElem?_drop,List.getElem?_take_of_lt h1,List.getD_eq_getElem?_getD,List.getElem?_eq_getElem (by omega)];rfl
theorem Zbp(xs:List AV)(i j:Nat)(h:j≤xs.length):((xs.take j).drop i).length=j-i:=by simp;omega
theorem ZhC(xs:List AV)(i j k:Nat)(h1:i+k<j)(h2:j≤xs.length)(h3:k<((xs.take j).drop i).length):Zaw ((xs.take j).drop i)[k]=kAt xs ((i+k:Nat):Int):=by
 have:=ZGA xs i j k h1 h2
 rw[List.getElem?_eq_getElem h3]at this
 rw[Option.some.inj this,kAt,Int.toNat_natCast]
theorem ZaQ{xs:List AV}{i j:Nat}(h2:j≤xs.length)(hs:Za7 ((xs.take j).drop i)){k l:Nat}(h3:i≤k)(h4:k≤l)(h5:l<j):kAt xs k≤kAt xs l:=by
 by_cases e:k=l
 ·subst e;exact Int.le_refl _
 ·have hl:=Zbp xs i j h2
  have:=List.pairwise_iff_getElem.mp hs (k-i) (l-i) (by omega) (by omega) (by omega)
  rw[ZhC xs i j (k-i) (by omega) h2,ZhC xs i j (l-i) (by omega) h2]at this
  rw[show i+(k-i)=k by omega,show i+(l-i)=l by omega]at this
  exact this
theorem Za4{xs:List AV}{i j:Nat}(h2:j≤xs.length)(h:∀k l:Nat,i≤k→k≤l→l<j→kAt xs k≤kAt xs l):Za7 ((xs.take j).drop i):=by
 have hl:=Zbp xs i j h2
 refine List.pairwise_iff_getElem.mpr fun p q hp hq hpq=>?_
 rw[ZhC xs i j p (by omega) h2,ZhC xs i j q (by omega) h2]
 exact h _ _ (by omega) (by omega) (by omega)
theorem Zeq{xs:List AV}{i j:Nat}(h2:j≤xs.length){y:AV}(hy:y∈(xs.take j).drop i):∃k:Nat,i≤k∧k<j∧Zaw y=kAt xs k:=by
 have hl:=Zbp xs i j h2
 obtain⟨p,hp,rfl⟩:=List.mem_iff_getElem.mp hy
 exact⟨i+p,by omega,by omega,ZhC xs i j p (by omega) h2 hp⟩
theorem Zj5(xs:List AV)(a m b:Nat)(h1:a≤m)(h2:m≤b):(xs.take m).drop a++(xs.take b).drop m=(xs.take b).drop a:=by
 have e:(xs.take b).take m=xs.take m:=by rw[List.take_take,Nat.min_eq_left h2]
 have:=List.take_append_drop m (xs.take b)
 rw[e]at this
 conv=>rhs;rw[←this]
 by_cases hm:(xs.take m).length=m
 ·rw[List.drop_append_of_le_length (by omega)]
 ·have:xs.length<m:=by simp at hm;omega
  have e1:(xs.take b).drop m=[]:=by rw[List.drop_eq_nil_iff];simp;omega
  rw[e1];simp
theorem Zh1{xs P Z S:List AV}{a b:Nat}(h:xs=P++Z++S)(ha:P.length=a)(hb:P.length+Z.length=b):Zbm a b xs=P++Zay Z++S:=by
 subst h;subst ha;subst hb
 unfold Zbm
 rw[List.append_assoc P Z S,List.take_append_of_le_length (Nat.le_refl _),List.take_length,←List.append_assoc]
 have e1:(P++Z++S).take (P.length+Z.length)=P++Z:=by
  rw[List.take_append_of_le_length (by simp),←List.length_append,List.take_length]
 have e2:(P++Z++S).drop (P.length+Z.length)=S:=by
  rw[←List.length_append,List.drop_left]
 rw[e1,e2,List.drop_left]
theorem ZyP{xs P U V S:List AV}{a m b:Nat}(h:xs=P++U++V++S)(ha:P.length=a)(hm:P.length+U.length=m)(hb:P.length+U.length+V.length=b):Zhj a m b xs=P++V++U++S:=by
 subst h;subst ha;subst hm;subst hb
 unfold Zhj
 have e1:(P++U++V++S).take P.length=P:=by simp[List.append_assoc]
 have e2:(P++U++V++S).take (P.length+U.length)=P++U:=by
  rw[List.append_assoc (P++U),←List.length_append,List.take_left]
 have e3:(P++U++V++S).take (P.length+U.length+V.length)=P++U++V:=by
  rw[←List.length_append,←List.length_append,List.take_left]
 have e4:(P++U++V++S).drop (P.length+U.length+V.length)=S:=by
  rw[←List.length_append,←List.length_append,List.drop_left]
 have e5:(P++U++V).drop (P.length+U.length)=V:=by
  rw[←List.length_append,List.drop_left]
 rw[e1,e2,e3,e4,e5,List.drop_left]
end Go.Proofs.Ytjhdnpmojhkbjaa
/- A merge from the place that its search finds. No condition. -/
namespace Go.Proofs.Ytjhdnpmojhkbjaa
theorem ZpL{xs P Z S:List AV}{a b:Nat}(h:xs=P++Z++S)(ha:P.length=a)(hb:P.length+Z.length=b):(xs.take b).drop a=Z:=by
 subst h;subst ha;subst hb
 rw[←List.length_append,List.take_left,List.drop_left]
theorem Zuk{N:Nat}{xs P X V S:List AV}{a m b:Nat}(h:xs=P++X++V++S)(ha:P.length=a)(hm:P.length+X.length=m)(hb:P.length+X.length+V.length=b)(hX:0<X.length)(hV:0<V.length)(hL:xs.length<1000000)(hn:ZaH xs=true)(sX:Za7 X)(sV:Za7 V)(hN:b-a<N):smB N xs a m b=true:=by
 have hl:xs.length=P.length+X.length+V.length+S.length:=by rw[h];simp[Nat.add_assoc]
 unfold smB
 rw[hn,ZpL (xs:=xs) (P:=P) (Z:=X) (S:=V++S) (by rw[h];simp) (by simp;omega) (by simp;omega),ZpL (xs:=xs) (P:=P++X) (Z:=V) (S:=S) h (by simp;omega) (by simp;omega),sortedB_iff.mpr sX,sortedB_iff.mpr sV]
 simp only[Bool.and_true,decide_eq_true_eq]
 omega
theorem ZpH{C:Ctx}(hC:C.P=Try.prog){N:Nat}(hK:Zap Try.prog (BO5 N))(xs:List AV)(a m b mid s e:Nat)(p:Int)(h1:a≤s)(h2:s≤m)(h3:m≤e)(h4:e≤b)(h5:b≤xs.length)(hmid:mid+m=s+e)(ham:a<mid)(hmb:mid<b)(hL:xs.length<1000000)(hn:ZaH xs=true)(hs1:Za7 ((xs.take m).drop a))(hs2:Za7 ((xs.take b).drop m))(hN:b-a≤N)
 (q1:m<e→s<m→kAt xs ((e-1:Nat):Int)<kAt xs s) (q2:a<s→e<b→kAt xs ((s-1:Nat):Int)≤kAt xs e):
 Ev C (Zah xs a m b mid (mid+m) s s p) (Zag xs a m b mid (mid+m) s s p) (Zho 140 140 5 (.big shN (Zbm a b xs)) (.tup [])):=by
 obtain⟨P,hP⟩:∃P,P=xs.take a:=⟨_,rfl⟩
 obtain⟨X,hX⟩:∃X,X=(xs.take s).drop a:=⟨_,rfl⟩
 obtain⟨U,hU⟩:∃U,U=(xs.take m).drop s:=⟨_,rfl⟩
 obtain⟨V,hV⟩:∃V,V=(xs.take e).drop m:=⟨_,rfl⟩
 obtain⟨Y,hY⟩:∃Y,Y=(xs.take b).drop e:=⟨_,rfl⟩
 obtain⟨S,hS⟩:∃S,S=xs.drop b:=⟨_,rfl⟩
 have lP:P.length=a:=by rw[hP];simp;omega
 have lX:X.length=s-a:=by rw[hX];exact Zbp _ _ _ (by omega)
 have lU:U.length=m-s:=by rw[hU];exact Zbp _ _ _ (by omega)
 have lV:V.length=e-m:=by rw[hV];exact Zbp _ _ _ (by omega)
 have lY:Y.length=b-e:=by rw[hY];exact Zbp _ _ _ (by omega)
 have lS:S.length=xs.length-b:=by rw[hS];simp
 have eL:(xs.take m).drop a=X++U:=by rw[hX,hU];exact(Zj5 xs a s m h1 h2).symm
 have eR:(xs.take b).drop m=V++Y:=by rw[hV,hY];exact(Zj5 xs m e b h3 h4).symm
 have hxs:xs=P++(X++U)++(V++Y)++S:=by
  rw[←eL,←eR,hP,hS];exact(ZKe xs a m b (by omega) (by omega)).symm
 have sX:Za7 X:=by rw[hX];exact Za4 (by omega) fun k l r1 r2 r3=>ZaQ (by omega) hs1 r1 r2 (by omega)
 have sU:Za7 U:=by rw[hU];exact Za4 (by omega) fun k l r1 r2 r3=>ZaQ (by omega) hs1 (by omega) r2 (by omega)
 have sV:Za7 V:=by rw[hV];exact Za4 (by omega) fun k l r1 r2 r3=>ZaQ (by omega) hs2 r1 r2 (by omega)
 have sY:Za7 Y:=by rw[hY];exact Za4 (by omega) fun k l r1 r2 r3=>ZaQ (by omega) hs2 (by omega) r2 (by omega)
 have cVU:∀v∈V,∀u∈U,Zaw v<Zaw u:=by
  intro v hv u hu
  rw[hV]at hv;rw[hU]at hu
  obtain⟨k,k1,k2,k3⟩:=Zeq (by omega) hv
  obtain⟨l,l1,l2,l3⟩:=Zeq (by omega) hu
  have t1:=ZaQ (by omega) hs2 k1 (show k≤e-1 by omega) (by omega)
  have t2:=ZaQ (by omega) hs1 (show a≤s by omega) l1 l2
  have t3:=q1 (by omega) (by omega)
  omega
 have cXY:∀x∈X,∀y∈Y,Zaw x≤Zaw y:=by
  intro x hx y hy
  rw[hX]at hx;rw[hY]at hy
  obtain⟨k,k1,k2,k3⟩:=Zeq (by omega) hx
  obtain⟨l,l1,l2,l3⟩:=Zeq (by omega) hy
  have t1:=ZaQ (by omega) hs1 k1 (show k≤s-1 by omega) (by omega)
  have t2:=ZaQ (by omega) hs2 (show m≤e by omega) l1 l2
  have t3:=q2 (by omega) (by omega)
  omega
 have n4:ZaH P=true∧ZaH X=true∧ZaH U=true∧ZaH V=true∧ZaH Y=true∧ZaH S=true:=by
  rw[hxs]at hn
  simp only[Zbf,Bool.and_eq_true]at hn
  exact⟨hn.1.1.1,hn.1.1.2.1,hn.1.1.2.2,hn.1.2.1,hn.1.2.2,hn.2⟩
 have nS:∀ {l:List AV},ZaH l=true→ZaH (Zay l)=true:=fun hl=>numsB_mem.mpr fun x hx=>numsB_mem.mp hl x (mem_sort.mp hx)
 have e3:Zbm a b xs=P++Zay (X++V)++Zay (U++Y)++S:=by
  rw[Zh1 (P:=P) (Z:=X++U++(V++Y)) (S:=S) (by rw[hxs];simp) lP (by simp;omega),Zfc X U V Y (by rw[←eL];exact hs1) (by rw[←eR];exact hs2) cVU cXY]
  simp
 have i1:((mid:Int)+m)-s=(e:Int):=by omega
 rw[e3]
 refine ZB2 hC hK xs (P++X++V++U++Y++S) (P++Zay (X++V)++U++Y++S) _ a m b mid (mid+m) s s p (by omega) (by omega) ?_ ?_ ?_
 ·rw[i1]
  split
  ·rename_i hc
   refine⟨?_,?_⟩
   ·unfold Zns
    rw[hn]
    simp only[Bool.and_true,decide_eq_true_eq]
    omega
   ·rw[Int.toNat_natCast,Int.toNat_natCast,Int.toNat_natCast,ZyP (P:=P++X) (U:=U) (V:=V) (S:=Y++S) (by rw[hxs];simp) (by simp;omega) (by simp;omega) (by simp;omega)]
    simp
  ·rename_i hc
   rcases Nat.lt_or_ge s m with hsm |hsm
   ·have:V=[]:=List.eq_nil_of_length_eq_zero (by omega)
    rw[hxs,this];simp
   ·have:U=[]:=List.eq_nil_of_length_eq_zero (by omega)
    rw[hxs,this];simp
 ·split
  ·rename_i hc
   refine⟨Zuk (P:=P) (X:=X) (V:=V) (S:=U++Y++S) (by simp) lP (by omega) (by omega) (by omega) (by omega) (by simp;omega) ?_ sX sV (by omega),?_⟩
   ·simp only[Zbf,n4,Bool.and_self]
   ·rw[Int.toNat_natCast,Int.toNat_natCast,Zh1 (P:=P) (Z:=X++V) (S:=U++Y++S) (by simp) lP (by simp;omega)]
    simp
  ·rename_i hc
   have:Zay (X++V)=X++V:=by
    rcases Nat.lt_or_ge a s with hsm |hsm
    ·have:V=[]:=List.eq_nil_of_length_eq_zero (by omega)
     rw[this,List.append_nil,Za3 sX]
    ·have:X=[]:=List.eq_nil_of_length_eq_zero (by omega)
     rw[this,List.nil_append,Za3 sV]
   rw[this];simp
 ·rw[i1]
  have lZ:(Zay (X++V)).length=X.length+V.length:=by rw[Zcd];simp
  split
  ·rename_i hc
   refine⟨Zuk (P:=P++Zay (X++V)) (X:=U) (V:=Y) (S:=S) (by simp) (by simp;omega) (by simp;omega) (by simp;omega) (by omega) (by omega) (by simp;omega) ?_ sU sY (by omega),?_⟩
   ·have:=nS (l:=X++V) (by simp only[Zbf,n4,Bool.and_self])
    simp only[Zbf,n4,this,Bool.and_self]
   ·rw[Int.toNat_natCast,Int.toNat_natCast,Zh1 (P:=P++Zay (X++V)) (Z:=U++Y) (S:=S) (by simp) (by simp;omega) (by simp;omega)]
  ·rename_i hc
   have:Zay (U++Y)=U++Y:=by
    rcases Nat.lt_or_ge mid e with hsm |hsm
    ·have:Y=[]:=List.eq_nil_of_length_eq_zero (by omega)
     rw[this,List.append_nil,Za3 sU]
    ·have:U=[]:=List.eq_nil_of_length_eq_zero (by omega)
     rw[this,List.nil_append,Za3 sY]
   rw[this];simp
end Go.Proofs.Ytjhdnpmojhkbjaa
/- A merge with one element on a side. No condition. -/
namespace Go.Proofs.Ytjhdnpmojhkbjaa
theorem Zrp{C:Ctx}(hC:C.P=Try.prog){N:Nat}(hK:Zap Try.prog (BO5 N)){Q:List AFrame→Zaa→Prop}(xs:List AV)(a lo hi:Int)(hL:xs.length<1000000)(h0:0≤lo)(hhi:hi≤xs.length)(ha:0≤a)(ha2:a<xs.length)
 (hq:∀st:Int,lo≤st→st≤hi→(lo<st→kAt xs (st-1)<kAt xs a)→(st<hi→kAt xs a≤kAt xs st)→Ev C (ZcP st a []) (Zb4 st a xs) Q):
 ∀(d:Nat) (s r:Int),(r-s).toNat≤d→lo≤s→s≤r→r≤hi→(lo<s→kAt xs (s-1)<kAt xs a)→(r<hi→kAt xs a≤kAt xs r)→Ev C (ZbQ xs a s r) (ZbD xs a s r) Q:=by
 intro d
 have hfin:∀s:Int,lo≤s→s≤hi→(lo<s→kAt xs (s-1)<kAt xs a)→(s<hi→kAt xs a≤kAt xs s)→Ev C (ZbQ xs a s s) (ZbD xs a s s) Q:=fun s h1 h3 h4 h5=>
  go hC hK (ZEA std N xs a s s) (by simp) (hq s h1 h3 h4 h5)
 induction d with
 |zero=>
  intro s r hd h1 h2 h3 h4 h5
  have:s=r:=by omega
  subst this
  exact hfin s h1 h3 h4 h5
 |succ d ih=>
  intro s r hd h1 h2 h3 h4 h5
  by_cases he:s=r
  ·subst he
   exact hfin s h1 h3 h4 h5
  ·have hc:std.shr (std.add s r) 1=(s+r)/2:=ZHb _
   obtain⟨c,hcd⟩:∃c,c=(s+r)/2:=⟨_,rfl⟩
   rw[←hcd]at hc
   have hc1:s≤c:=by omega
   have hc2:c<r:=by omega
   have u:std.inR .u64 (std.add s r)=true:=decide_eq_true ⟨show (0:Int)≤s+r by omega,show s+r≤18446744073709551615 by omega⟩
   have hk:decide (Zh9 (AV.toI (AV.cellAt (xs.getD c.toNat .top) 4)) (AV.toI (AV.cellAt (xs.getD a.toNat .top) 4))<0)=decide (kAt xs c<kAt xs a):=ZfE _ _
   by_cases hlt:kAt xs c<kAt xs a
   ·have hw:=ZGN std N xs a s r
    simp only[hc,ZaB,Zau,ZeR,hk]at hw
    refine go hC hK hw ?_ (ih (c+1) r (by omega) (by omega) (by omega) h3 (fun _=>by rw[show c+1-1=c by omega];exact hlt) h5)
    simp only[u]
    simp[hlt]
    omega
   ·have hw:=ZBH std N xs a s r
    simp only[hc,ZaB,Zau,ZeR,hk]at hw
    refine go hC hK hw ?_ (ih s c (by omega) h1 hc1 (by omega) h4 fun _=>by omega)
    simp only[u]
    simp[hlt]
    omega
theorem Zqm{C:Ctx}(hC:C.P=Try.prog){N:Nat}(hK:Zap Try.prog (BO5 N)){Q:List AFrame→Zaa→Prop}(xs:List AV)(m lo hi:Int)(hL:xs.length<1000000)(h0:0≤lo)(hhi:hi≤xs.length)(ha:0≤m)(ha2:m<xs.length)
 (hq:∀st:Int,lo≤st→st≤hi→(lo<st→kAt xs (st-1)≤kAt xs m)→(st<hi→kAt xs m<kAt xs st)→Ev C (ZcC st m []) (Zb5 st m xs) Q):
 ∀(d:Nat) (s r:Int),(r-s).toNat≤d→lo≤s→s≤r→r≤hi→(lo<s→kAt xs (s-1)≤kAt xs m)→(r<hi→kAt xs m<kAt xs r)→Ev C (ZbM xs m s r) (ZbB xs m s r) Q:=by
 intro d
 have hfin:∀s:Int,lo≤s→s≤hi→(lo<s→kAt xs (s-1)≤kAt xs m)→(s<hi→kAt xs m<kAt xs s)→Ev C (ZbM xs m s s) (ZbB xs m s s) Q:=fun s h1 h3 h4 h5=>
  go hC hK (ZDF std N xs m s s) (by simp) (hq s h1 h3 h4 h5)
 induction d with
 |zero=>
  intro s r hd h1 h2 h3 h4 h5
  have:s=r:=by omega
  subst this
  exact hfin s h1 h3 h4 h5
 |succ d ih=>
  intro s r hd h1 h2 h3 h4 h5
  by_cases he:s=r
  ·subst he
   exact hfin s h1 h3 h4 h5
  ·have hc:std.shr (std.add s r) 1=(s+r)/2:=ZHb _
   obtain⟨c,hcd⟩:∃c,c=(s+r)/2:=⟨_,rfl⟩
   rw[←hcd]at hc
   have hc1:s≤c:=by omega
   have hc2:c<r:=by omega
   have u:std.inR .u64 (std.add s r)=true:=decide_eq_true ⟨show (0:Int)≤s+r by omega,show s+r≤18446744073709551615 by omega⟩
   have hk:decide (Zh9 (AV.toI (AV.cellAt (xs.getD m.toNat .top) 4)) (AV.toI (AV.cellAt (xs.getD c.toNat .top) 4))<0)=decide (kAt xs m<kAt xs c):=ZfE _ _
   by_cases hlt:kAt xs m<kAt xs c
   ·have hw:=ZCF std N xs m s r
    simp only[hc,ZaB,Zau,ZeR,hk]at hw
    refine go hC hK hw ?_ (ih s c (by omega) h1 hc1 (by omega) h4 fun _=>hlt)
    simp only[u]
    simp[hlt]
    omega
   ·have hw:=ZEv std N xs m s r
    simp only[hc,ZaB,Zau,ZeR,hk]at hw
    refine go hC hK hw ?_ (ih (c+1) r (by omega) (by omega) (by omega) h3 (fun _=>by rw[show c+1-1=c by omega];omega) h5)
    simp only[u]
    simp[hlt]
    omega
theorem ZwT(T q:List AV)(x y:AV)(j:Nat)(hj:j=T.length):((T++x::y::q).set j y).set (j+1) x=T++y::x::q:=by
 subst hj
 rw[List.set_append_right _ _ (Nat.le_refl _),List.set_append_right _ _ (by omega),Nat.sub_self,Nat.add_sub_cancel_left];rfl
theorem ZsS(T q:List AV)(x y:AV)(j:Nat)(hj:j=T.length):((T++x::y::q).set (j+1) x).set j y=T++y::x::q:=by
 subst hj
 rw[List.set_append_right _ _ (by omega),List.set_append_right _ _ (by omega),Nat.sub_self,Nat.add_sub_cancel_left];rfl
theorem ZoW{C:Ctx}(hC:C.P=Try.prog){N:Nat}(hK:Zap Try.prog (BO5 N))(x:AV)(S R:List AV)(hx:ZlS x=x):∀(V P:List AV) (i:Int),i=(P.length:Int)+V.length+1→P.length+V.length+S.length+1<1000000→(∀y∈V,ZlS y=y)→P++V++[x]++S=R→
 Ev C (ZcP i (P.length:Int) []) (Zb4 i (P.length:Int) (P++[x]++V++S)) (Zho 140 140 5 (.big shN R) (.tup [])):=by
 intro V
 induction V with
 |nil=>
  intro P i hi hl _ hR
  subst hi
  have hw:=Zz0 std N ((P.length:Int)+([]:List AV).length+1) P.length (P++[x]++[]++S)
  rw[show P++[x]++[]++S=R by rw[←hR];simp]at hw⊢
  exact ZdB hC hK hw (by simp;omega) rfl rfl rfl rfl
 |cons y V ih=>
  intro P i hi hl hv hR
  have hy:ZlS y=y:=hv y (by simp)
  have hw:=ZzK std N i P.length (P++[x]++(y::V)++S)
  have e0:P++[x]++(y::V)++S=P++x::y::(V++S):=by simp
  rw[e0]at hw⊢
  have g1:(P++x::y::(V++S)).getD P.length .top=x:=Zex _ _ _ _ rfl
  have g2:(P++x::y::(V++S)).getD (P.length+1) .top=y:=by
   rw[show P++x::y::(V++S)=(P++[x])++y::(V++S) by simp]
   exact Zex _ _ _ _ (by simp)
  have e1:((P.length:Int)+1).toNat=P.length+1:=by omega
  simp only[ZaB,Zau,Zk3,ZcE,e1,g1,g2,Int.toNat_natCast]at hw
  rw[show (AV.agg (Row.gen [AV.int .i64 (AV.toI (AV.cellAt x 0)),AV.int .i64 (AV.toI (AV.cellAt x 1)),AV.int .i64 (AV.toI (AV.cellAt x 2)),AV.list (.ints .i64 (AV.toIs (AV.cellAt x 3))),AV.int .i64 (AV.toI (AV.cellAt x 4))]))=x from hx,show(AV.agg (Row.gen [AV.int .i64 (AV.toI (AV.cellAt y 0)),AV.int .i64 (AV.toI (AV.cellAt y 1)),AV.int .i64 (AV.toI (AV.cellAt y 2)),AV.list (.ints .i64 (AV.toIs (AV.cellAt y 3))),AV.int .i64 (AV.toI (AV.cellAt y 4))]))=y from hy,ZwT P (V++S) x y P.length rfl]at hw
  refine go hC hK hw ?_ ?_
  ·simp only[List.length_cons]at hi hl
   simp
   omega
  ·have:=ih (P++[y]) i (by rw[hi];simp;omega) (by simp at hl ⊢;omega) (fun z hz=>hv z (by simp[hz])) (by rw[←hR];simp)
   have e2:((P++[y]).length:Int)=(P.length:Int)+1:=by simp
   rw[e2,show P++[y]++[x]++V++S=P++y::x::(V++S) by simp]at this
   exact this
theorem ZqJ{C:Ctx}(hC:C.P=Try.prog){N:Nat}(hK:Zap Try.prog (BO5 N))(y:AV)(P R:List AV)(hy:ZlS y=y):∀(n:Nat) (U S:List AV) (k:Int),U.length=n→k=(P.length:Int)+U.length→P.length+U.length+S.length+1<1000000→(∀z∈U,ZlS z=z)→P++[y]++U++S=R→
 Ev C (ZcC (P.length:Int) k []) (Zb5 (P.length:Int) k (P++U++[y]++S)) (Zho 140 140 5 (.big shN R) (.tup [])):=by
 intro n
 induction n with
 |zero=>
  intro U S k hU hk hl _ hR
  have:U=[]:=List.eq_nil_of_length_eq_zero hU
  subst this;subst hk
  have hw:=Zw2 std N P.length ((P.length:Int)+([]:List AV).length) (P++[]++[y]++S)
  rw[show P++[]++[y]++S=R by rw[←hR];simp]at hw⊢
  exact ZdB hC hK hw (by simp) rfl rfl rfl rfl
 |succ n ih=>
  intro U S k hU hk hl hv hR
  rcases List.eq_nil_or_concat U with rfl |⟨T,x,rfl⟩
  ·simp at hU
  ·rw[List.concat_eq_append]at*
   have hx:ZlS x=x:=hv x (by simp)
   have hT:T.length=n:=by simpa using hU
   have e0:P++(T++[x])++[y]++S=(P++T)++x::y::S:=by simp
   have hk':k=((P++T).length:Int)+1:=by rw[hk];simp;omega
   subst hk'
   have hw:=ZAo std N P.length (((P++T).length:Int)+1) (P++(T++[x])++[y]++S)
   rw[e0]at hw⊢
   have g1:((P++T)++x::y::S).getD (P++T).length .top=x:=Zex _ _ _ _ rfl
   have g2:((P++T)++x::y::S).getD ((P++T).length+1) .top=y:=by
    rw[show (P++T)++x::y::S=(P++T++[x])++y::S by simp]
    exact Zex _ _ _ _ (by rw[List.length_append (bs:=[x])];rfl)
   have e1:(((P++T).length:Int)+1).toNat=(P++T).length+1:=by omega
   have e2:(((P++T).length:Int)+1)-1=(P++T).length:=by omega
   simp only[ZaB,Zau,Zk3,ZaD,e1,e2,g1,g2,Int.toNat_natCast]at hw
   rw[show (AV.agg (Row.gen [AV.int .i64 (AV.toI (AV.cellAt x 0)),AV.int .i64 (AV.toI (AV.cellAt x 1)),AV.int .i64 (AV.toI (AV.cellAt x 2)),AV.list (.ints .i64 (AV.toIs (AV.cellAt x 3))),AV.int .i64 (AV.toI (AV.cellAt x 4))]))=x from hx,show(AV.agg (Row.gen [AV.int .i64 (AV.toI (AV.cellAt y 0)),AV.int .i64 (AV.toI (AV.cellAt y 1)),AV.int .i64 (AV.toI (AV.cellAt y 2)),AV.list (.ints .i64 (AV.toIs (AV.cellAt y 3))),AV.int .i64 (AV.toI (AV.cellAt y 4))]))=y from hy,ZsS (P++T) S x y (P++T).length rfl]at hw
   refine go hC hK hw ?_ ?_
   ·simp at hl
    simp
    omega
   ·have:=ih T ([x]++S) ((P++T).length:Int) hT (by simp) (by simp at hl ⊢;omega) (fun z hz=>hv z (by simp[hz])) (by rw[←hR];simp)
    rw[show P++T++[y]++([x]++S)=(P++T)++y::x::S by simp]at this
    exact this
end Go.Proofs.Ytjhdnpmojhkbjaa
/- The merge proved by its size. No condition. -/
namespace Go.Proofs.Ytjhdnpmojhkbjaa
theorem ZrU(xs:List AV)(k:Nat)(h:k<xs.length):(xs.take (k+1)).drop k=[xs.getD k .top]:=by
 have:=ZjE xs k k (Nat.le_refl _) h
 rw[this];simp
theorem Zto{N:Nat}(hK:Zap Try.prog (BO5 N))(xs:List AV)(a m b:Nat)(h1:a<m)(h2:m<b)(h3:b≤xs.length)(hL:xs.length<1000000)(hN:b-a≤N)(hn:ZaH xs=true)(hs1:Za7 ((xs.take m).drop a))(hs2:Za7 ((xs.take b).drop m)):
 ZlH Try.prog 140 140 5 (.big shN xs) (.big shN (Zbm a b xs)) [.int .i64 a, .int .i64 m, .int .i64 b, .fn 119 []] (.tup []):=
 Zgq (Zs3 xs a m b) fun C hC=>by
  have hv:∀y∈xs,ZlS y=y:=fun y hy=>ZlL (List.all_eq_true.mp hn y hy)
  have hsub:∀ {i j:Nat} {y:AV},y∈(xs.take j).drop i→y∈xs:=fun hy=>List.mem_of_mem_take (List.mem_of_mem_drop hy)
  have hcut:=ZKe xs a m b (by omega) (by omega)
  have lP:(xs.take a).length=a:=by simp;omega
  have lS:(xs.drop b).length=xs.length-b:=by simp
  by_cases c1:m-a=1
  ·have hm:m=a+1:=by omega
   subst hm
   refine go hC hK (ZFT std N xs a (a+1:Nat) b) (by simp;omega) ?_
   refine Zrp hC hK xs a ((a+1:Nat):Int) b hL (by omega) (by omega) (by omega) (by omega) (fun st q1 q2 q3 q4=>?_) _ ((a+1:Nat):Int) b (Nat.le_refl _) (Int.le_refl _) (by omega) (Int.le_refl _) (fun h=>absurd h (Int.lt_irrefl _)) (fun h=>absurd h (Int.lt_irrefl _))
   obtain⟨s,rfl⟩:=Int.eq_ofNat_of_zero_le (by omega:0≤st)
   have lV:=Zbp xs (a+1) s (by omega)
   have e1:=ZrU xs a (by omega)
   have e2:=Zj5 xs (a+1) s b (by omega) (by omega)
   rw[e1,←e2]at hcut
   have hR:xs.take a++(xs.take s).drop (a+1)++[xs.getD a .top]++((xs.take b).drop s++xs.drop b)=Zbm a b xs:=by
    rw[Zh1 (P:=xs.take a) (Z:=[]++[xs.getD a .top]++((xs.take s).drop (a+1)++(xs.take b).drop s)) (S:=xs.drop b) (by rw[List.nil_append,←List.append_assoc (xs.take a)];exact hcut.symm) lP (by simp only[List.length_append,lP,Zbp xs (a+1) s (by omega),Zbp xs s b (by omega)];simp;omega)]
    have sV:Za7 ((xs.take s).drop (a+1)):=Za4 (by omega) fun k l r1 r2 r3=>ZaQ (by omega) hs2 r1 r2 (by omega)
    have sW:Za7 ((xs.take b).drop s):=Za4 (by omega) fun k l r1 r2 r3=>ZaQ (by omega) hs2 (by omega) r2 (by omega)
    have hxW:∀w∈(xs.take b).drop s,Zaw (xs.getD a .top)≤Zaw w:=by
     intro w hw
     obtain⟨k,k1,k2,k3⟩:=Zeq (by omega) hw
     have t1:=ZaQ (by omega) hs2 (show a+1≤s by omega) k1 k2
     have t2:=q4 (by omega)
     rw[k3]
     have:kAt xs (a:Int)=Zaw (xs.getD a .top):=by rw[kAt,Int.toNat_natCast]
     omega
    have hVx:∀v∈(xs.take s).drop (a+1),∀u∈[xs.getD a .top],Zaw v<Zaw u:=by
     intro v hv u hu
     rw[List.mem_singleton]at hu
     subst hu
     obtain⟨k,k1,k2,k3⟩:=Zeq (by omega) hv
     have t1:=ZaQ (by omega) hs2 k1 (show k≤s-1 by omega) (by omega)
     have t2:=q3 (by omega)
     rw[k3]
     have:kAt xs (a:Int)=Zaw (xs.getD a .top):=by rw[kAt,Int.toNat_natCast]
     rw[show (s:Int)-1=((s-1:Nat):Int) by omega]at t2
     omega
    rw[Zfc [] [xs.getD a .top] _ _ (by simp[Za7]) (by rw[e2];exact hs2) hVx (by simp),List.nil_append,Za3 sV,Za3 (l:=[xs.getD a .top]++(xs.take b).drop s) (List.pairwise_cons.mpr ⟨hxW,sW⟩)]
    simp
   have:=ZoW hC hK (xs.getD a .top) ((xs.take b).drop s++xs.drop b) (Zbm a b xs) (Zdw hn (by omega)) ((xs.take s).drop (a+1)) (xs.take a) s (by rw[lP,lV];omega) (by rw[lP,lV,List.length_append,Zbp xs s b (by omega),lS];omega) (fun y hy=>hv y (hsub hy)) hR
   rw[lP,show xs.take a++[xs.getD a .top]++(xs.take s).drop (a+1)++((xs.take b).drop s++xs.drop b)=xs by rw[←List.append_assoc];rw[List.append_assoc (xs.take a++_)];exact hcut]at this
   exact this
  ·by_cases c2:b-m=1
   ·have hb:b=m+1:=by omega
    subst hb
    refine go hC hK (ZFp std N xs a m (m+1:Nat)) (by simp;omega) ?_
    refine Zqm hC hK xs m a m hL (by omega) (by omega) (by omega) (by omega) (fun st q1 q2 q3 q4=>?_) _ a m (Nat.le_refl _) (Int.le_refl _) (by omega) (Int.le_refl _) (fun h=>absurd h (Int.lt_irrefl _)) (fun h=>absurd h (Int.lt_irrefl _))
    obtain⟨s,rfl⟩:=Int.eq_ofNat_of_zero_le (by omega:0≤st)
    have lX:=Zbp xs a s (by omega)
    have lU:=Zbp xs s m (by omega)
    have e1:=ZrU xs m (by omega)
    have e2:=Zj5 xs a s m (by omega) (by omega)
    rw[e1,←e2]at hcut
    have hR:(xs.take a++(xs.take s).drop a)++[xs.getD m .top]++(xs.take m).drop s++xs.drop (m+1)=Zbm a (m+1) xs:=by
     rw[Zh1 (P:=xs.take a) (Z:=(xs.take s).drop a++(xs.take m).drop s++([xs.getD m .top]++[])) (S:=xs.drop (m+1)) (by rw[List.append_nil,←List.append_assoc (xs.take a)];exact hcut.symm) lP (by simp only[List.length_append,lP,lX,lU];simp;omega)]
     have sX:Za7 ((xs.take s).drop a):=Za4 (by omega) fun k l r1 r2 r3=>ZaQ (by omega) hs1 r1 r2 (by omega)
     have sU:Za7 ((xs.take m).drop s):=Za4 (by omega) fun k l r1 r2 r3=>ZaQ (by omega) hs1 (by omega) r2 (by omega)
     have hm':kAt xs (m:Int)=Zaw (xs.getD m .top):=by rw[kAt,Int.toNat_natCast]
     have hXy:∀x∈(xs.take s).drop a,∀y∈[xs.getD m .top],Zaw x≤Zaw y:=by
      intro x hx y hy
      rw[List.mem_singleton]at hy
      subst hy
      obtain⟨k,k1,k2,k3⟩:=Zeq (by omega) hx
      have t1:=ZaQ (by omega) hs1 k1 (show k≤s-1 by omega) (by omega)
      have t2:=q3 (by omega)
      rw[show (s:Int)-1=((s-1:Nat):Int) by omega]at t2
      omega
     have hyU:∀v∈[xs.getD m .top],∀u∈(xs.take m).drop s,Zaw v<Zaw u:=by
      intro v hv u hu
      rw[List.mem_singleton]at hv
      subst hv
      obtain⟨k,k1,k2,k3⟩:=Zeq (by omega) hu
      have t1:=ZaQ (by omega) hs1 (show a≤s by omega) k1 k2
      have t2:=q4 (by omega)
      omega
     rw[Zfc _ _ [xs.getD m .top] [] (by rw[e2];exact hs1) (by simp[Za7]) hyU (by simp),List.append_nil,Za3 sU,Za3 (List.pairwise_append.mpr ⟨sX,by simp,hXy⟩)]
     simp
    have:=ZqJ hC hK (xs.getD m .top) (xs.take a++(xs.take s).drop a) (Zbm a (m+1) xs) (Zdw hn (by omega)) _ ((xs.take m).drop s) (xs.drop (m+1)) m rfl (by rw[List.length_append,lP,lX,lU];omega) (by rw[List.length_append,lP,lX,lU,lS];omega) (fun y hy=>hv y (hsub hy)) hR
    rw[List.length_append,lP,lX,show a+(s-a)=s by omega,show xs.take a++(xs.take s).drop a++(xs.take m).drop s++[xs.getD m .top]++xs.drop (m+1)=xs by rw[List.append_assoc (xs.take a)];exact hcut]at this
    exact this
   ·obtain⟨mid,hmid⟩:∃mid,mid=(a+b)/2:=⟨_,rfl⟩
    have hc:std.shr ((a:Int)+b) 1=(mid:Int):=by rw[ZHb];omega
    have u:std.inR .u64 ((a:Int)+b)=true:=decide_eq_true ⟨show (0:Int)≤(a:Int)+b by omega,show(a:Int)+b≤18446744073709551615 by omega⟩
    by_cases c3:mid<m
    ·have hw:=ZG7 std N xs a m b
     simp only[ZcE,ZaD,hc]at hw
     refine go hC hK hw (by simp only[u];simp;omega) ?_
     refine ZkJ hC hK xs a m b mid ((mid:Int)+m) ((mid:Int)+m-1) ((mid:Int)+m-b) mid hL (by omega) (by omega) (by omega) (by omega) (fun st q1 q2 q3 q4=>?_) _ ((mid:Int)+m-b) mid (Nat.le_refl _) (Int.le_refl _) (by omega) (Int.le_refl _) (fun h=>absurd h (Int.lt_irrefl _)) (fun h=>absurd h (Int.lt_irrefl _))
     obtain⟨s,rfl⟩:=Int.eq_ofNat_of_zero_le (by omega:0≤st)
     refine ZpH hC hK xs a m b mid s (mid+m-s) _ (by omega) (by omega) (by omega) (by omega) h3 (by omega) (by omega) (by omega) hL hn hs1 hs2 hN (fun r1 r2=>?_) (fun r1 r2=>?_)
     ·have:=q4 (by omega)
      rw[show (mid:Int)+m-1-s=((mid+m-s-1:Nat):Int) by omega]at this
      exact this
     ·have:=q3 (by omega)
      rw[show (mid:Int)+m-1-((s:Int)-1)=((mid+m-s:Nat):Int) by omega,show(s:Int)-1=((s-1:Nat):Int) by omega]at this
      exact this
    ·have hw:=ZEB std N xs a m b
     simp only[ZcE,ZaD,hc]at hw
     refine go hC hK hw (by simp only[u];simp;omega) ?_
     refine ZkJ hC hK xs a m b mid ((mid:Int)+m) ((mid:Int)+m-1) a m hL (by omega) (by omega) (by omega) (by omega) (fun st q1 q2 q3 q4=>?_) _ a m (Nat.le_refl _) (Int.le_refl _) (by omega) (Int.le_refl _) (fun h=>absurd h (Int.lt_irrefl _)) (fun h=>absurd h (Int.lt_irrefl _))
     obtain⟨s,rfl⟩:=Int.eq_ofNat_of_zero_le (by omega:0≤st)
     refine ZpH hC hK xs a m b mid s (mid+m-s) _ (by omega) (by omega) (by omega) (by omega) h3 (by omega) (by omega) (by omega) hL hn hs1 hs2 hN (fun r1 r2=>?_) (fun r1 r2=>?_)
     ·have:=q4 (by omega)
      rw[show (mid:Int)+m-1-s=((mid+m-s-1:Nat):Int) by omega]at this
      exact this
     ·have:=q3 (by omega)
      rw[show (mid:Int)+m-1-((s:Int)-1)=((mid+m-s:Nat):Int) by omega,show(s:Int)-1=((s-1:Nat):Int) by omega]at this
      exact this
theorem Zyc:∀N,(ZHg N).OK Try.prog:=by
 intro N
 induction N with
 |zero=>
  intro pa args r fr h
  simp only[ZHg]at h
  split at h
  ·simp only[Option.some.injEq,Prod.mk.injEq,decide_eq_true_eq]at h
   obtain⟨h0,_,_⟩:=h
   unfold smB at h0
   simp only[Bool.and_eq_true,decide_eq_true_eq]at h0
   omega
  ·cases h
 |succ N ih=>
  intro pa args r fr h
  simp only[ZHg]at h
  split at h
  ·rename_i xs a m b
   simp only[Option.some.injEq,Prod.mk.injEq,decide_eq_true_eq]at h
   obtain⟨h0,rfl,rfl⟩:=h
   unfold smB at h0
   simp only[Bool.and_eq_true,decide_eq_true_eq]at h0
   obtain⟨⟨⟨⟨g1,g2,g3,g4,g5,g6⟩,g7⟩,g8⟩,g9⟩:=h0
   obtain⟨a,rfl⟩:=Int.eq_ofNat_of_zero_le g1
   obtain⟨m,rfl⟩:=Int.eq_ofNat_of_zero_le (by omega:0≤m)
   obtain⟨b,rfl⟩:=Int.eq_ofNat_of_zero_le (by omega:0≤b)
   exact ZcT (f:=140) rfl (Zto (N:=N) ⟨ih,Zum⟩ xs a m b (by omega) (by omega) (by omega) g5 (by omega) g7 (sortedB_iff.mp g8) (sortedB_iff.mp g9))
  ·cases h
end Go.Proofs.Ytjhdnpmojhkbjaa
/- The contracts of sorting so far. No condition. -/
namespace Go.Proofs.Ytjhdnpmojhkbjaa
def BO6:List Ctr:=BO5 1000000
theorem ZeY:Zap Try.prog BO6:=⟨Zyc _,Zum⟩
end Go.Proofs.Ytjhdnpmojhkbjaa
/- Paths of functions, printed by the explorer (Gx). No condition. -/
namespace Go.Proofs.Ytjhdnpmojhkbjaa
set_option maxRecDepth 100000
set_option linter.unusedVariables false
def ZuU(xs:List AV)(n:Int):AFrame:={ fn:=137,N:=63,env:=[(0,AV.row 0 0),(1,AV.int .i64 n),(2,AV.fn 119 [])],todo:=[.code a137.code],defs:=[],rnd:=none,ret:=false,res:=[] }
def ZJZ(xs:List AV)(n:Int):List AFrame:=[(ZuU xs n)]
theorem Zs8(xs:List AV)(n:Int):Zam tab 137 [AV.row 0 0,AV.int .i64 n,AV.fn 119 []]=some (ZuU xs n):=rfl
def ZBO(xs:List AV)(n:Int):Zaa:=[(0,{ base:=0,blks:=[Blk.row 140 5 (Row.big (Sh.agg [Sh.int .i64,Sh.int .i64,Sh.int .i64,Sh.ints .i64,Sh.int .i64]) xs)] })]
def ZcH(n n0 n1:Int)(x2:List AV):List AFrame:=[{ fn:=137,N:=63,env:=[(0,AV.row 0 0),(1,AV.int .i64 n),(2,AV.fn 119 []),(6,AV.int .i64 20),(7,AV.int .i64 n0),(8,AV.int .i64 n1)],todo:=.code (ACode.gh [] Zpu)::ZuE,defs:=[],rnd:=none,ret:=false,res:=[] }]
def Zb6(n:Int)(n0:Int)(n1:Int)(x2:List AV):Zaa:=[(0,{ base:=0,blks:=[Blk.row 140 5 (Row.big (Sh.agg [Sh.int .i64,Sh.int .i64,Sh.int .i64,Sh.ints .i64,Sh.int .i64]) x2)] })]
abbrev Zgt(n:Int)(n0:Int)(n1:Int)(x2:List AV):List AFrame×Zaa:=(ZcH n n0 n1 x2,Zb6 n n0 n1 x2)
def ZbU(n:Int)(x3:List AV)(n4:Int):List AFrame:=[{ fn:=137,N:=63,env:=[(0,AV.row 0 0),(1,AV.int .i64 n),(2,AV.fn 119 []),(6,AV.int .i64 n4)],todo:=.code (ACode.gh [] ZrI)::ZvM,defs:=[],rnd:=none,ret:=false,res:=[] }]
def ZbC(n:Int)(x3:List AV)(n4:Int):Zaa:=[(0,{ base:=0,blks:=[Blk.row 140 5 (Row.big (Sh.agg [Sh.int .i64,Sh.int .i64,Sh.int .i64,Sh.ints .i64,Sh.int .i64]) x3)] })]
abbrev Zd7(n:Int)(x3:List AV)(n4:Int):List AFrame×Zaa:=(ZbU n x3 n4,ZbC n x3 n4)
def ZcL(n n4 n5 n6:Int)(x7:List AV):List AFrame:=[{ fn:=137,N:=63,env:=[(0,AV.row 0 0),(1,AV.int .i64 n),(2,AV.fn 119 []),(6,AV.int .i64 n4),(7,AV.int .i64 n6),(8,AV.int .i64 n5)],todo:=.code (ACode.gh [] ZvY)::ZG4,defs:=[],rnd:=none,ret:=false,res:=[] }]
def Zcf(n:Int)(n4:Int)(n5:Int)(n6:Int)(x7:List AV):Zaa:=[(0,{ base:=0,blks:=[Blk.row 140 5 (Row.big (Sh.agg [Sh.int .i64,Sh.int .i64,Sh.int .i64,Sh.ints .i64,Sh.int .i64]) x7)] })]
abbrev ZgM(n:Int)(n4:Int)(n5:Int)(n6:Int)(x7:List AV):List AFrame×Zaa:=(ZcL n n4 n5 n6 x7,Zcf n n4 n5 n6 x7)
theorem ZFY(A:Ar)(xs:List AV)(n:Int):Zad A tab BO6 14 [] (ZJZ xs n) (ZBO xs n)=
 some (tr [4] [],
  Zgt (n) (0) (20) (xs)):=by kernel_rfl
theorem ZGU(A:Ar)(n n0 n1:Int)(x2:List AV):Zad A tab BO6 33 [true] (ZcH n n0 n1 x2) (Zb6 n n0 n1 x2)=
 some (tr [1,4,4,3] [A.inR .i64 (A.add n1 20),Zab (decide (sgB x2 n0 n1=true)) true,A.le n1 n],
  Zgt (n) (n1) (A.add n1 20) (Zbm (Int.toNat n0) (Int.toNat n1) x2)):=by kernel_rfl
theorem ZCl(A:Ar)(n n0 n1:Int)(x2:List AV):Zad A tab BO6 21 [false] (ZcH n n0 n1 x2) (Zb6 n n0 n1 x2)=
 some (tr [0,4,3] [Zab (decide (sgB x2 n0 n=true)) true,!A.le n1 n],
  Zd7 (n) (Zbm (Int.toNat n0) (Int.toNat n) x2) (20)):=by kernel_rfl
theorem ZCz(A:Ar)(n:Int)(x3:List AV)(n4:Int):Zad A tab BO6 22 [true] (ZbU n x3 n4) (ZbC n x3 n4)=
 some (tr [2,1,3] [A.inR .i64 (A.mul 2 n4),A.lt n4 n],
  ZgM (n) (n4) (A.mul 2 n4) (0) (x3)):=by kernel_rfl
theorem ZBL(A:Ar)(n:Int)(x3:List AV)(n4:Int):ZaX A tab BO6 11 [false] 137 (ZbU n x3 n4) (ZbC n x3 n4)=
 some (tr [1,3] [!A.lt n4 n],
  AV.tup [],140,5,Row.big (.agg [.int .i64, .int .i64, .int .i64, .ints .i64, .int .i64]) x3):=by kernel_rfl
theorem ZDG(A:Ar)(n n4 n5 n6:Int)(x7:List AV):Zad A tab BO6 38 [true] (ZcL n n4 n5 n6 x7) (Zcf n n4 n5 n6 x7)=
 some (tr [1,0,4,2,4,3] [A.inR .i64 (A.add n5 (A.mul 2 n4)),A.inR .i64 (A.mul 2 n4),Zab (decide (smB 1000000 x7 n6 (A.add n6 n4) n5=true)) true,A.inR .i64 (A.add n6 n4),A.le n5 n],
  ZgM (n) (n4) (A.add n5 (A.mul 2 n4)) (n5) (Zbm (Int.toNat n6) (Int.toNat n5) x7)):=by kernel_rfl
theorem ZCG(A:Ar)(n n4 n5 n6:Int)(x7:List AV):Zad A tab BO6 41 [false,true] (ZcL n n4 n5 n6 x7) (Zcf n n4 n5 n6 x7)=
 some (tr [1,1,5,4,2,3] [A.inR .i64 (A.mul n4 2),Zab (decide (smB 1000000 x7 n6 (A.add n6 n4) n=true)) true,A.lt (A.add n6 n4) n,A.inR .i64 (A.add n6 n4),!A.le n5 n],
  Zd7 (n) (Zbm (Int.toNat n6) (Int.toNat n) x7) (A.mul n4 2)):=by kernel_rfl
theorem ZuG(A:Ar)(n n4 n5 n6:Int)(x7:List AV):Zad A tab BO6 34 [false,false] (ZcL n n4 n5 n6 x7) (Zcf n n4 n5 n6 x7)=
 some (tr [1,1,4,2,3] [A.inR .i64 (A.mul n4 2),!A.lt (A.add n6 n4) n,A.inR .i64 (A.add n6 n4),!A.le n5 n],
  Zd7 (n) (x7) (A.mul n4 2)):=by kernel_rfl
end Go.Proofs.Ytjhdnpmojhkbjaa
/- Blocks that are sorted. No condition. -/
namespace Go.Proofs.Ytjhdnpmojhkbjaa
theorem ZIw(ys:List AV)(a b:Nat)(h:a≤b):ys.take a++(ys.take b).drop a++ys.drop b=ys:=by
 have:=List.take_append_drop a (ys.take b)
 rw[List.take_take,Nat.min_eq_left h]at this
 rw[this,List.take_append_drop]
theorem Zhx(a b:Nat)(ys:List AV):Zbm a b ys=ys.take a++Zay ((ys.take b).drop a)++ys.drop b:=by unfold Zbm;rfl
theorem ZBi(k:Int)(a b:Nat)(ys:List AV)(h:a≤b):fkN k (Zbm a b ys)=fkN k ys:=by
 conv=>rhs;rw[←ZIw ys a b h]
 rw[Zhx,Zci,Zci,Zci,Zci,(ZbI _).2]
theorem Zhd(a b:Nat)(ys:List AV)(h:a≤b):Zay (Zbm a b ys)=Zay ys:=
 Zjp (ZbI ys).1 fun k=>by rw[(ZbI ys).2,ZBi k a b ys h]
theorem Zcy(a b:Nat)(ys:List AV)(h:a≤b)(hb:b≤ys.length):(Zbm a b ys).length=ys.length:=by
 rw[Zhx];simp only[List.length_append,Zcd,Zbp ys a b hb,List.length_take,List.length_drop];omega
theorem Zg4(a b:Nat)(ys:List AV)(h:a≤b)(hn:ZaH ys=true):ZaH (Zbm a b ys)=true:=by
 rw[←ZIw ys a b h]at hn
 rw[Zhx]
 simp only[Zbf,Bool.and_eq_true]at hn⊢
 exact⟨⟨hn.1.1,numsB_mem.mpr fun x hx=>numsB_mem.mp hn.1.2 x (mem_sort.mp hx)⟩,hn.2⟩
theorem ZjN(a b:Nat)(ys:List AV)(h:a≤b)(hb:b≤ys.length)(k:Nat)(hk:k<a∨b≤k):kAt (Zbm a b ys) (k:Int)=kAt ys (k:Int):=by
 unfold kAt
 rw[Int.toNat_natCast,List.getD_eq_getElem?_getD,List.getD_eq_getElem?_getD,Zhx]
 conv=>rhs;rw[←ZIw ys a b h]
 have l1:(ys.take a).length=a:=by simp;omega
 have l2:=Zbp ys a b hb
 have l3:(Zay ((ys.take b).drop a)).length=b-a:=by rw[Zcd,l2]
 rw[List.append_assoc,List.append_assoc]
 rcases hk with hk |hk
 ·rw[List.getElem?_append_left (by omega),List.getElem?_append_left (by omega)]
 ·rw[List.getElem?_append_right (by omega),List.getElem?_append_right (by omega),List.getElem?_append_right (by omega),List.getElem?_append_right (by omega),l3,l2]
theorem ZBX(a b:Nat)(ys:List AV)(h:a≤b)(hb:b≤ys.length):Za7 (((Zbm a b ys).take b).drop a):=by
 rw[ZpL (Zhx a b ys) (by simp;omega) (by simp only[Zcd,Zbp ys a b hb,List.length_take];omega)]
 exact(ZbI _).1
def Zvd(w:Nat)(ys:List AV)(a:Nat):Prop:=∀q k l:Nat,q*w≤k→k≤l→l<q*w+w→l<a→kAt ys k≤kAt ys l
def ZHj(w:Nat)(ys:List AV)(a:Nat):Prop:=∀q k l:Nat,q*w≤k→k≤l→l<q*w+w→a≤k→l<ys.length→kAt ys k≤kAt ys l
theorem ZuN{q p w l:Nat}(h1:q*w≤l)(h2:l<q*w+w)(h3:p*w≤l)(h4:l<p*w+w):q=p:=by
 rcases Nat.lt_trichotomy q p with h |h |h
 ·have:=Nat.mul_le_mul_right w (show q+1≤p from h)
  rw[Nat.succ_mul]at this;omega
 ·exact h
 ·have:=Nat.mul_le_mul_right w (show p+1≤q from h)
  rw[Nat.succ_mul]at this;omega
theorem ZgZ{w:Nat}{ys:List AV}{a b p:Nat}(hB:Zvd w ys a)(ha:a=p*w)(h1:a≤b)(h2:b≤a+w)(h3:b≤ys.length):Zvd w (Zbm a b ys) b:=by
 intro q k l q1 q2 q3 q4
 by_cases hl:l<a
 ·rw[ZjN a b ys h1 h3 k (.inl (by omega)),ZjN a b ys h1 h3 l (.inl hl)]
  exact hB q k l q1 q2 q3 hl
 ·have:q=p:=ZuN (l:=l) (by omega) q3 (by omega) (by omega)
  subst this
  exact ZaQ (by rw[Zcy a b ys h1 h3];exact h3) (ZBX a b ys h1 h3) (by omega) q2 q4
theorem ZsK{w:Nat}{ys:List AV}{a b:Nat}(hR:ZHj w ys a)(h1:a≤b)(h3:b≤ys.length):ZHj w (Zbm a b ys) b:=by
 intro q k l q1 q2 q3 q4 q5
 rw[Zcy a b ys h1 h3]at q5
 rw[ZjN a b ys h1 h3 k (.inr q4),ZjN a b ys h1 h3 l (.inr (by omega))]
 exact hR q k l q1 q2 q3 (by omega) q5
theorem ZjQ{w:Nat}{ys:List AV}{a i j p:Nat}(hR:ZHj w ys a)(hi:i=p*w)(h1:a≤i)(h2:j≤i+w)(h3:j≤ys.length):Za7 ((ys.take j).drop i):=
 Za4 h3 fun k l r1 r2 r3=>hR p k l (by omega) r2 (by omega) (by omega) (by omega)
end Go.Proofs.Ytjhdnpmojhkbjaa
/- The stable sort. No condition. -/
namespace Go.Proofs.Ytjhdnpmojhkbjaa
section
variable {C:Ctx}(hC:C.P=Try.prog)(xs:List AV)(n:Nat)(hL:n<900000)
include hC hL
theorem Zsl(w:Nat)(hw0:20≤w)(hw1:w<n)
 (hq:∀ys:List AV,ys.length=n→ZaH ys=true→Zay ys=Zay xs→Zvd (2*w) ys n→Ev C (ZbU n [] ((w:Int)*2)) (ZbC n ys ((w:Int)*2)) (Zho 137 140 5 (.big shN (Zay xs)) (.tup []))):
 ∀(d q a:Nat) (ys:List AV),a=q*(2*w)→n-a≤d→a≤n→ys.length=n→ZaH ys=true→Zay ys=Zay xs→Zvd (2*w) ys a→ZHj w ys a→
  Ev C (ZcL n w ((a:Int)+2*w) a []) (Zcf n w ((a:Int)+2*w) a ys) (Zho 137 140 5 (.big shN (Zay xs)) (.tup [])):=by
 intro d
 induction d with
 |zero=>
  intro q a ys ha hd h1 h2 h3 h4 h5 h6
  refine go hC ZeY (ZuG std n w ((a:Int)+2*w) a ys) (by simp;omega) (hq ys h2 h3 h4 ?_)
  have:a=n:=by omega
  rw[←this];exact h5
 |succ d ih=>
  intro q a ys ha hd h1 h2 h3 h4 h5 h6
  have e1:(2*q)*w=a:=by rw[ha,Nat.mul_comm 2 q,Nat.mul_assoc]
  have e2:(2*q+1)*w=a+w:=by rw[Nat.succ_mul,e1]
  by_cases c1:a+2*w≤n
  ·have hb:smB 1000000 ys (a:Int) ((a:Int)+w) ((a:Int)+2*w)=true:=by
    unfold smB
    rw[h3,show((a:Int)+w).toNat=a+w by omega,show((a:Int)+2*w).toNat=a+2*w by omega,Int.toNat_natCast,
     sortedB_iff.mpr (ZjQ h6 e1.symm (by omega) (by omega) (by omega)),sortedB_iff.mpr (ZjQ h6 e2.symm (by omega) (by omega) (by omega))]
    simp only[Bool.and_true,decide_eq_true_eq]
    omega
   have hw:=ZDG std n w ((a:Int)+2*w) a ys
   simp only[ZcE,hb,show((a:Int)+2*w).toNat=a+2*w by omega,Int.toNat_natCast]at hw
   refine go hC ZeY hw (by simp;omega) ?_
   have:=ih (q+1) (a+2*w) (Zbm a (a+2*w) ys) (by rw[ha,Nat.add_mul,Nat.one_mul]) (by omega) c1 (by rw[Zcy _ _ _ (by omega) (by omega),h2]) (Zg4 _ _ _ (by omega) h3) (by rw[Zhd _ _ _ (by omega),h4]) (ZgZ h5 ha (by omega) (by omega) (by omega)) (ZsK h6 (by omega) (by omega))
   rw[show ((a+2*w:Nat):Int)=(a:Int)+2*w by omega]at this
   exact this
  ·by_cases c2:a+w<n
   ·have hb:smB 1000000 ys (a:Int) ((a:Int)+w) (n:Int)=true:=by
     unfold smB
     rw[h3,show((a:Int)+w).toNat=a+w by omega,Int.toNat_natCast,Int.toNat_natCast,
      sortedB_iff.mpr (ZjQ h6 e1.symm (by omega) (by omega) (by omega)),sortedB_iff.mpr (ZjQ h6 e2.symm (by omega) (by omega) (by omega))]
     simp only[Bool.and_true,decide_eq_true_eq]
     omega
    have hw:=ZCG std n w ((a:Int)+2*w) a ys
    simp only[ZcE,hb,Int.toNat_natCast]at hw
    refine go hC ZeY hw (by simp;omega) ?_
    exact hq (Zbm a n ys) (by rw[Zcy _ _ _ (by omega) (by omega),h2]) (Zg4 _ _ _ (by omega) h3) (by rw[Zhd _ _ _ (by omega),h4]) (ZgZ h5 ha (by omega) (by omega) (by omega))
   ·refine go hC ZeY (ZuG std n w ((a:Int)+2*w) a ys) (by simp;omega) (hq ys h2 h3 h4 ?_)
    intro p k l q1 q2 q3 q4
    by_cases hl:l<a
    ·exact h5 p k l q1 q2 q3 hl
    ·have:p=q:=ZuN (l:=l) (by omega) q3 (by omega) (by omega)
     subst this
     exact h6 (2*p) k l (by omega) q2 (by omega) (by omega) (by omega)
theorem Zsd:∀(d w:Nat) (ys:List AV),n-w≤d→20≤w→w<2000000→ys.length=n→ZaH ys=true→Zay ys=Zay xs→Zvd w ys n→
 Ev C (ZbU n [] w) (ZbC n ys w) (Zho 137 140 5 (.big shN (Zay xs)) (.tup [])):=by
 have hend:∀(w:Nat) (ys:List AV),n≤w→w<2000000→ys.length=n→Zay ys=Zay xs→Zvd w ys n→Ev C (ZbU n [] w) (ZbC n ys w) (Zho 137 140 5 (.big shN (Zay xs)) (.tup [])):=by
  intro w ys hnw _ h2 h4 h5
  have hs:Zay xs=ys:=by
   rw[←h4]
   refine Za3 ?_
   have:=Za4 (xs:=ys) (i:=0) (j:=n) (by omega) fun k l r1 r2 r3=>h5 0 k l (by omega) r2 (by omega) r3
   rwa[←h2,List.take_length,List.drop_zero]at this
  rw[hs]
  exact ZdB hC ZeY (ZBL std n ys w) (by simp;omega) rfl rfl rfl rfl
 intro d
 induction d with
 |zero=>intro w ys hd h0 hw2 h2 h3 h4 h5;exact hend w ys (by omega) hw2 h2 h4 h5
 |succ d ih=>
  intro w ys hd h0 hw2 h2 h3 h4 h5
  by_cases c:w<n
  ·refine go hC ZeY (ZCz std n ys w) (by simp;omega) ?_
   have:=Zsl hC xs n hL w h0 c (fun zs z1 z2 z3 z4=>by
    have:=ih (2*w) zs (by omega) (by omega) (by omega) z1 z2 z3 z4
    rw[show ((2*w:Nat):Int)=(w:Int)*2 by omega]at this
    exact this) n 0 0 ys (by omega) (by omega) (by omega) h2 h3 h4 (fun _ _ _ _ _ _ h=>absurd h (by omega)) (fun q k l q1 q2 q3 _ q5=>h5 q k l q1 q2 q3 (by omega))
   have e:((0:Nat):Int)+2*(w:Int)=std.mul 2 (w:Int):=by simp
   rw[e]at this
   exact this
  ·exact hend w ys (by omega) hw2 h2 h4 h5
theorem ZsB:∀(d q:Nat) (ys:List AV),n-q*20≤d→q*20≤n→ys.length=n→ZaH ys=true→Zay ys=Zay xs→Zvd 20 ys (q*20)→
 Ev C (ZcH n ((q*20:Nat):Int) ((q*20:Nat)+20) []) (Zb6 n ((q*20:Nat):Int) ((q*20:Nat)+20) ys) (Zho 137 140 5 (.big shN (Zay xs)) (.tup [])):=by
 have hend:∀(q:Nat) (ys:List AV),q*20≤n→n<q*20+20→ys.length=n→ZaH ys=true→Zay ys=Zay xs→Zvd 20 ys (q*20)→Ev C (ZcH n ((q*20:Nat):Int) ((q*20:Nat)+20) []) (Zb6 n ((q*20:Nat):Int) ((q*20:Nat)+20) ys) (Zho 137 140 5 (.big shN (Zay xs)) (.tup [])):=by
  intro q ys h1 h1' h2 h3 h4 h5
  have hb:sgB ys ((q*20:Nat):Int) n=true:=by
   unfold sgB
   rw[h3]
   simp only[Bool.and_true,decide_eq_true_eq]
   omega
  have hw:=ZCl std n ((q*20:Nat):Int) (((q*20:Nat):Int)+20) ys
  simp only[hb,Int.toNat_natCast]at hw
  refine go hC ZeY hw (by simp;omega) ?_
  exact Zsd hC xs n hL n 20 (Zbm (q*20) n ys) (by omega) (by omega) (by omega) (by rw[Zcy _ _ _ (by omega) (by omega),h2]) (Zg4 _ _ _ (by omega) h3) (by rw[Zhd _ _ _ (by omega),h4]) (ZgZ h5 rfl (by omega) (by omega) (by omega))
 intro d
 induction d with
 |zero=>intro q ys hd h1 h2 h3 h4 h5;exact hend q ys h1 (by omega) h2 h3 h4 h5
 |succ d ih=>
  intro q ys hd h1 h2 h3 h4 h5
  by_cases c:q*20+20≤n
  ·have hb:sgB ys ((q*20:Nat):Int) (((q*20:Nat):Int)+20)=true:=by
    unfold sgB
    rw[h3]
    simp only[Bool.and_true,decide_eq_true_eq]
    omega
   have hw:=ZGU std n ((q*20:Nat):Int) (((q*20:Nat):Int)+20) ys
   simp only[hb,Int.toNat_natCast,show(((q*20:Nat):Int)+20).toNat=q*20+20 by omega]at hw
   refine go hC ZeY hw (by simp;omega) ?_
   have:=ih (q+1) (Zbm (q*20) (q*20+20) ys) (by omega) (by omega) (by rw[Zcy _ _ _ (by omega) (by omega),h2]) (Zg4 _ _ _ (by omega) h3) (by rw[Zhd _ _ _ (by omega),h4]) (by rw[Nat.succ_mul];exact ZgZ h5 rfl (by omega) (by omega) (by omega))
   rw[show ((((q+1)*20:Nat)):Int)=((q*20:Nat):Int)+20 by omega]at this
   exact this
  ·exact hend q ys h1 (by omega) h2 h3 h4 h5
end
theorem ZqS(xs:List AV)(hL:xs.length<900000)(hn:ZaH xs=true):ZlH Try.prog 137 140 5 (.big shN xs) (.big shN (Zay xs)) [.int .i64 xs.length, .fn 119 []] (.tup []):=
 Zgq (Zs8 xs xs.length) fun C hC=>by
  refine go hC ZeY (ZFY std xs xs.length) (by simp) ?_
  exact ZsB hC xs xs.length hL xs.length 0 xs (by omega) (by omega) rfl hn rfl (fun _ _ _ _ _ _ h=>absurd h (by omega))
end Go.Proofs.Ytjhdnpmojhkbjaa
/- Contracts as a list. No condition. -/
namespace Go.Proofs.Ytjhdnpmojhkbjaa
def stB(xs:List AV)(n:Int):Bool:=decide (n=xs.length∧n<900000)&&ZaH xs
theorem Zp5(xs:List AV)(n:Int)(h:stB xs n=true):Zhy Try.prog 1000137 [.list (.big shN xs), .int .i64 n, .fn 119 []] (.tup []) (some ⟨140,5, .big shN (Zay xs)⟩):=by
 unfold stB at h
 simp only[Bool.and_eq_true,decide_eq_true_eq]at h
 obtain⟨⟨h1,h2⟩,h5⟩:=h
 subst h1
 exact ZcT (f:=137) rfl (ZqS xs (by omega) h5)
def k137:Ctr:=⟨1000137,0,fun _ a=>match a with |[.list (.big (.agg [.int .i64, .int .i64, .int .i64, .ints .i64, .int .i64]) xs), .int .i64 n, .fn 119 []]=>some (decide (stB xs n=true), .tup [],some ⟨140,5, .big shN (Zay xs)⟩) |_=>none⟩
theorem Zy8:k137.OK Try.prog:=fun pa args r fr h=>by
 simp only[k137]at h
 split at h
 ·simp only[Option.some.injEq,Prod.mk.injEq,decide_eq_true_eq]at h
  obtain⟨h0,rfl,rfl⟩:=h
  exact Zp5 _ _ h0
 ·cases h
def BO7:List Ctr:=[k137]++BO6
theorem ZvH:Zap Try.prog BO7:=⟨Zy8,ZeY⟩
end Go.Proofs.Ytjhdnpmojhkbjaa
/- Paths of functions, printed by the explorer (Gx). No condition. -/
namespace Go.Proofs.Ytjhdnpmojhkbjaa
set_option maxRecDepth 100000
set_option linter.unusedVariables false
def Zvc(xs:List AV):AFrame:={ fn:=118,N:=9,env:=[(0,AV.row 0 0),(1,AV.fn 119 [])],todo:=[.code a118.code],defs:=[],rnd:=none,ret:=false,res:=[] }
def ZH1(xs:List AV):List AFrame:=[(Zvc xs)]
theorem ZtM(xs:List AV):Zam tab 118 [AV.row 0 0,AV.fn 119 []]=some (Zvc xs):=rfl
def ZC6(xs:List AV):Zaa:=[(0,{ base:=0,blks:=[Blk.row 140 5 (Row.big (Sh.agg [Sh.int .i64,Sh.int .i64,Sh.int .i64,Sh.ints .i64,Sh.int .i64]) xs)] })]
theorem ZAL(A:Ar)(xs:List AV):ZaX A tab BO7 8 [] 118 (ZH1 xs) (ZC6 xs)=
 some (tr [1,4] [Zab (decide (stB xs (A.int (A.lenA xs))=true)) true],
  AV.tup [],140,5,Row.big (.agg [.int .i64, .int .i64, .int .i64, .ints .i64, .int .i64]) (List.foldl ZgP [] xs)):=by kernel_rfl
end Go.Proofs.Ytjhdnpmojhkbjaa
/- Contracts as a list. No condition. -/
namespace Go.Proofs.Ytjhdnpmojhkbjaa
theorem Zqo(xs:List AV)(hL:xs.length<900000)(hn:ZaH xs=true):ZlH Try.prog 118 140 5 (.big shN xs) (.big shN (Zay xs)) [.fn 119 []] (.tup []):=
 Zgq (ZtM xs) fun C hC=>by
  have hb:stB xs xs.length=true:=by
   unfold stB
   rw[hn]
   simp only[Bool.and_true,decide_eq_true_eq]
   exact⟨trivial,by omega⟩
  have hw:=ZAL std xs
  simp only[Zch,ZiC,hb]at hw
  exact ZdB hC ZvH hw (by simp) rfl rfl rfl rfl
def soB(xs:List AV):Bool:=decide (xs.length<900000)&&ZaH xs
theorem Zpj(xs:List AV)(h:soB xs=true):Zhy Try.prog 1000118 [.list (.big shN xs), .fn 119 []] (.tup []) (some ⟨140,5, .big shN (Zay xs)⟩):=by
 unfold soB at h
 simp only[Bool.and_eq_true,decide_eq_true_eq]at h
 exact ZcT (f:=118) rfl (Zqo xs h.1 h.2)
def k118:Ctr:=⟨1000118,0,fun _ a=>match a with |[.list (.big (.agg [.int .i64, .int .i64, .int .i64, .ints .i64, .int .i64]) xs), .fn 119 []]=>some (decide (soB xs=true), .tup [],some ⟨140,5, .big shN (Zay xs)⟩) |_=>none⟩
theorem Zyp:k118.OK Try.prog:=fun pa args r fr h=>by
 simp only[k118]at h
 split at h
 ·simp only[Option.some.injEq,Prod.mk.injEq,decide_eq_true_eq]at h
  obtain⟨h0,rfl,rfl⟩:=h
  exact Zpj _ h0
 ·cases h
def BO8:List Ctr:=[k118]++BO7
theorem ZF0:Zap Try.prog BO8:=⟨Zyp,ZvH⟩
end Go.Proofs.Ytjhdnpmojhkbjaa
/- Contracts as a list. No condition. -/
namespace Go.Proofs.Ytjhdnpmojhkbjaa
theorem Zfy(x:Int):ZqA x 64=x%64:=by
 unfold ZqA
 rcases Int.le_total 0 x with h |h
 ·rw[Int.tmod_eq_emod_of_nonneg h]
  omega
 ·obtain⟨y,rfl⟩:∃y,x= -y:=⟨-x,by omega⟩
  rw[Int.neg_tmod,Int.tmod_eq_emod_of_nonneg (by omega:(0:Int)≤y)]
  omega
def Zfp(n c:Int):Int:=if ZqA (c-n) 64≤32 then n+ZqA (c-n) 64 else n+ZqA (c-n) 64-64
def BO9:List Ctr:=BO8
theorem ZDm:Zap Try.prog BO9:=ZF0
end Go.Proofs.Ytjhdnpmojhkbjaa
/- Contracts as a list. No condition. -/
namespace Go.Proofs.Ytjhdnpmojhkbjaa
def ZH0(x:AV):AV:=AV.agg (Row.gen [AV.int .i64 (AV.toI (AV.cellAt x 0)),AV.int .i64 (AV.toI (AV.cellAt x 1)),AV.int .i64 (AV.toI (AV.cellAt x 2)),AV.list (.ints .i64 (AV.toIs (AV.cellAt x 3)))])
abbrev ZAC:Sh:=.agg [.int .i64, .int .i64, .int .i64, .ints .i64]
def chF(x:AV):Int:=(AV.cellAt x 0).toI
def ctF(x:AV):Int:=(AV.cellAt x 1).toI
def ctB(fs:List AV):Bool:=fs.all fun f=>decide (0≤ctF f∧ctF f≤63)
theorem Zno(n c:Int):n-31≤Zfp n c∧Zfp n c≤n+32:=by
 unfold Zfp;rw[Zfy];split<;>omega
section
variable {C:Ctx}(hC:C.P=Try.prog){Q:List AFrame→Zaa→Prop}(c:Int)(fs:List AV)
include hC
end
def nmB(fs:List AV):Bool:=decide (fs.length<10000)&&ctB fs
def BOa:List Ctr:=BO9
theorem Zm9:Zap Try.prog BOa:=ZDm
end Go.Proofs.Ytjhdnpmojhkbjaa
/- The ordered frames: the compacted stable sort is the reference's list. No condition. -/
namespace Go.Proofs.Ytjhdnpmojhkbjaa
def ZlX(f:AV)(k:Int):AV:=AV.agg (Row.gen [AV.int .i64 (AV.toI (AV.cellAt f 0)),AV.int .i64 (AV.toI (AV.cellAt f 1)),AV.int .i64 (AV.toI (AV.cellAt f 2)),AV.list (.ints .i64 (AV.toIs (AV.cellAt f 3))),AV.int .i64 k])
theorem ZjC(f:AV)(k:Int):Zaw (ZlX f k)=k:=rfl
def ZlJ(c:Int):List AV→Int→List AV
 |[],_=>[]
 |f::fs,last=>if chF f=c then ZlX f (Zfp last (ctF f))::ZlJ c fs (Zfp last (ctF f))else ZlJ c fs last
def ZcR(c:Int):List AV→List AV
 |[]=>[]
 |f::fs=>if chF f=c then ZlX f (ctF f+64)::ZlJ c fs (ctF f+64)else ZcR c fs
def cpA(p:AV):List AV→List AV
 |[]=>[]
 |y::l=>if Zaw y=Zaw p then cpA y l else y::cpA y l
def cpN:List AV→List AV
 |[]=>[]
 |x::l=>x::cpA x l
def StrN(l:List AV):Prop:=l.Pairwise fun x y=>Zaw x<Zaw y
theorem StrN.sort{l:List AV}(h:StrN l):Za7 l:=h.imp fun h=>Int.le_of_lt h
end Go.Proofs.Ytjhdnpmojhkbjaa
/- Paths of functions, printed by the explorer (Gx). No condition. -/
namespace Go.Proofs.Ytjhdnpmojhkbjaa
set_option maxRecDepth 100000
set_option linter.unusedVariables false
def Zu0(a:Int)(b:Int):AFrame:={ fn:=139,N:=53,env:=[(0,AV.nils),(1,AV.int .i64 a),(2,AV.int .i64 b),(3,AV.fn 119 [])],todo:=[.code a139.code],defs:=[],rnd:=none,ret:=false,res:=[] }
def ZK9(a:Int)(b:Int):List AFrame:=[(Zu0 a b)]
theorem ZtC(a:Int)(b:Int):Zam tab 139 [AV.nils,AV.int .i64 a,AV.int .i64 b,AV.fn 119 []]=some (Zu0 a b):=rfl
def Zh7(a b n0:Int):List AFrame:=[{ fn:=139,N:=53,env:=[(0,AV.nils),(1,AV.int .i64 a),(2,AV.int .i64 b),(3,AV.fn 119 []),(8,AV.int .i64 n0)],todo:=.code (ACode.gh [] ZrB)::Zv1,defs:=[],rnd:=none,ret:=false,res:=[] }]
def ZgE(a:Int)(b:Int)(n0:Int):Zaa:=[]
abbrev ZkI(a:Int)(b:Int)(n0:Int):List AFrame×Zaa:=(Zh7 a b n0,ZgE a b n0)
theorem ZEc(A:Ar)(a b:Int):Zad A tab BOa 9 [] (ZK9 a b) []=
 some (tr [1,1] [A.inR .i64 (A.add a 1)],
  ZkI (a) (b) (A.add a 1)):=by kernel_rfl
theorem ZGB(A:Ar)(a b n0:Int):ZaE A tab BOa 11 [false] 139 (Zh7 a b n0) (ZgE a b n0)=
 some (tr [1,3] [!A.lt n0 b],
  AV.tup [],none):=by kernel_rfl
def Zt2:AFrame:={ fn:=121,N:=66,env:=[(0,AV.nils),(1,AV.fn 122 [])],todo:=[.code a121.code],defs:=[],rnd:=none,ret:=false,res:=[ARes.tmp 4] }
def ZIX:List AFrame:=[Zt2]
theorem ZsT:Zam tab 121 [AV.nils,AV.fn 122 []]=some Zt2:=rfl
theorem ZCh(A:Ar):ZaE A tab BOa 18 [true] 121 (ZIX ) []=
 some (tr [3,4] [A.lt (A.int 0) 2],
  AV.nils,none):=by kernel_rfl
end Go.Proofs.Ytjhdnpmojhkbjaa
/- Contracts as a list. No condition. -/
namespace Go.Proofs.Ytjhdnpmojhkbjaa
theorem Ztb(a b:Int)(h:b≤a+1∧ -1000000≤a∧a≤1000000):ZaK Try.prog 139 [.nils, .int .i64 a, .int .i64 b, .fn 119 []] (.tup []) none:=
 start (ZtC a b) fun C hC=>go hC Zm9 (ZEc std a b) (by simp;omega) (fin hC Zm9 (ZGB std a b (a+1)) (by simp;omega) rfl rfl)
theorem ZlP:ZaK Try.prog 121 [.nils, .fn 122 []] .nils none:=
 start ZsT fun C hC=>fin hC Zm9 (ZCh std) (by simp) rfl rfl
def Zx9(a b:Int):Bool:=decide (b≤a+1∧ -1000000≤a∧a≤1000000)
def k139n:Ctr:=⟨139,0,fun _ a=>match a with |[.nils, .int .i64 a, .int .i64 b, .fn 119 []]=>some (decide (Zx9 a b=true), .tup [],none) |_=>none⟩
theorem Zsk:k139n.OK Try.prog:=fun pa args r fr h=>by
 simp only[k139n]at h
 split at h
 ·simp only[Option.some.injEq,Prod.mk.injEq,decide_eq_true_eq]at h
  obtain⟨h0,rfl,rfl⟩:=h
  exact Ztb _ _ (of_decide_eq_true h0)
 ·cases h
def k121n:Ctr:=⟨121,0,fun _ a=>match a with |[.nils, .fn 122 []]=>some (true, .nils,none) |_=>none⟩
theorem Ztn:k121n.OK Try.prog:=fun pa args r fr h=>by
 simp only[k121n]at h
 split at h
 ·cases h
  exact ZlP
 ·cases h
def BOb:List Ctr:=[k139n,k121n]++BOa
theorem Znx:Zap Try.prog BOb:=⟨Zsk,⟨Ztn,Zm9⟩⟩
end Go.Proofs.Ytjhdnpmojhkbjaa
/- Paths of functions, printed by the explorer (Gx). No condition. -/
namespace Go.Proofs.Ytjhdnpmojhkbjaa
set_option maxRecDepth 100000
set_option linter.unusedVariables false
def ZuB(n:Int):AFrame:={ fn:=137,N:=63,env:=[(0,AV.nils),(1,AV.int .i64 n),(2,AV.fn 119 [])],todo:=[.code a137.code],defs:=[],rnd:=none,ret:=false,res:=[] }
def ZHD(n:Int):List AFrame:=[(ZuB n)]
theorem ZtK(n:Int):Zam tab 137 [AV.nils,AV.int .i64 n,AV.fn 119 []]=some (ZuB n):=rfl
def Zht(n:Int):List AFrame:=[{ fn:=137,N:=63,env:=[(0,AV.nils),(1,AV.int .i64 n),(2,AV.fn 119 []),(6,AV.int .i64 20),(7,AV.int .i64 0),(8,AV.int .i64 20)],todo:=.code (ACode.gh [] Zpu)::ZuE,defs:=[],rnd:=none,ret:=false,res:=[] }]
def ZgJ(n:Int):Zaa:=[]
abbrev Zlr(n:Int):List AFrame×Zaa:=(Zht n,ZgJ n)
def ZhG(n n0:Int):List AFrame:=[{ fn:=137,N:=63,env:=[(0,AV.nils),(1,AV.int .i64 n),(2,AV.fn 119 []),(6,AV.int .i64 n0)],todo:=.code (ACode.gh [] ZrI)::ZvM,defs:=[],rnd:=none,ret:=false,res:=[] }]
def Zgp(n:Int)(n0:Int):Zaa:=[]
abbrev ZkH(n:Int)(n0:Int):List AFrame×Zaa:=(ZhG n n0,Zgp n n0)
theorem ZDc(A:Ar)(n:Int):Zad A tab BOb 14 [] (ZHD n) []=
 some (tr [4] [],
  Zlr (n)):=by kernel_rfl
theorem ZBK(A:Ar)(n:Int):Zad A tab BOb 21 [false] (Zht n) (ZgJ n)=
 some (tr [0,4,3] [decide (Zx9 0 n=true),!A.le 20 n],
  ZkH (n) (20)):=by kernel_rfl
theorem ZA1(A:Ar)(n n0:Int):ZaE A tab BOb 11 [false] 137 (ZhG n n0) (Zgp n n0)=
 some (tr [1,3] [!A.lt n0 n],
  AV.tup [],none):=by kernel_rfl
end Go.Proofs.Ytjhdnpmojhkbjaa
/- Contracts as a list. No condition. -/
namespace Go.Proofs.Ytjhdnpmojhkbjaa
theorem Zos:ZaK Try.prog 137 [.nils, .int .i64 0, .fn 119 []] (.tup []) none:=
 start (ZtK 0) fun C hC=>go hC Znx (ZDc std 0) (by simp) (go hC Znx (ZBK std 0) (by simp[Zx9]) (fin hC Znx (ZA1 std 0 20) (by simp) rfl rfl))
theorem ZlZ(n:Int)(h:n=0):ZaK Try.prog 137 [.nils, .int .i64 n, .fn 119 []] (.tup []) none:=by subst h;exact Zos
def Zzh(n:Int):Bool:=decide (n=0)
def k137n:Ctr:=⟨137,0,fun _ a=>match a with |[.nils, .int .i64 n, .fn 119 []]=>some (decide (Zzh n=true), .tup [],none) |_=>none⟩
theorem Zs6:k137n.OK Try.prog:=fun pa args r fr h=>by
 simp only[k137n]at h
 split at h
 ·simp only[Option.some.injEq,Prod.mk.injEq,decide_eq_true_eq]at h
  obtain⟨h0,rfl,rfl⟩:=h
  exact ZlZ _ (of_decide_eq_true h0)
 ·cases h
def BOc:List Ctr:=[k137n]++BOb
theorem ZvX:Zap Try.prog BOc:=⟨Zs6,Znx⟩
end Go.Proofs.Ytjhdnpmojhkbjaa
/- Paths of functions, printed by the explorer (Gx). No condition. -/
namespace Go.Proofs.Ytjhdnpmojhkbjaa
set_option maxRecDepth 100000
set_option linter.unusedVariables false
def ZvB:AFrame:={ fn:=118,N:=9,env:=[(0,AV.nils),(1,AV.fn 119 [])],todo:=[.code a118.code],defs:=[],rnd:=none,ret:=false,res:=[] }
def ZHU:List AFrame:=[ZvB]
theorem Ztr:Zam tab 118 [AV.nils,AV.fn 119 []]=some ZvB:=rfl
theorem ZCq(A:Ar):ZaE A tab BOc 8 [] 118 (ZHU ) []=
 some (tr [1,4] [decide (Zzh (A.int 0)=true)],
  AV.tup [],none):=by kernel_rfl
end Go.Proofs.Ytjhdnpmojhkbjaa
/- Contracts as a list. No condition. -/
namespace Go.Proofs.Ytjhdnpmojhkbjaa
theorem Zn6:ZaK Try.prog 118 [.nils, .fn 119 []] (.tup []) none:=
 start Ztr fun C hC=>fin hC ZvX (ZCq std) (by simp[Zzh]) rfl rfl
def k118n:Ctr:=⟨118,0,fun _ a=>match a with |[.nils, .fn 119 []]=>some (true, .tup [],none) |_=>none⟩
theorem ZsZ:k118n.OK Try.prog:=fun pa args r fr h=>by
 simp only[k118n]at h
 split at h
 ·cases h
  exact Zn6
 ·cases h
def BOd:List Ctr:=[k118n]++BOc
theorem Zlm:Zap Try.prog BOd:=⟨ZsZ,ZvX⟩
end Go.Proofs.Ytjhdnpmojhkbjaa
/- Paths of functions, printed by the explorer (Gx). No condition. -/
namespace Go.Proofs.Ytjhdnpmojhkbjaa
set_option maxRecDepth 100000
set_option linter.unusedVariables false
def Zvb(a:Int)(b:Int)(fs:List AV):AFrame:={ fn:=117,N:=21,env:=[(0,AV.list (Row.big (Sh.agg [Sh.int .i64,Sh.int .i64,Sh.int .i64,Sh.ints .i64]) fs)),(1,AV.val (Go.Value.func (Go.Fn.func 110) { toList:=[Go.Value.agg { toList:=[Go.Value.int .i64 a,Go.Value.int .i64 b] }] } { toList:=[] }))],todo:=[.code a117.code],defs:=[],rnd:=none,ret:=false,res:=[ARes.tmp 4] }
def ZKt(a:Int)(b:Int)(fs:List AV):List AFrame:=[(Zvb a b fs)]
theorem ZsG(a:Int)(b:Int)(fs:List AV):Zam tab 117 [AV.list (Row.big (Sh.agg [Sh.int .i64,Sh.int .i64,Sh.int .i64,Sh.ints .i64]) fs),AV.val (Go.Value.func (Go.Fn.func 110) { toList:=[Go.Value.agg { toList:=[Go.Value.int .i64 a,Go.Value.int .i64 b] }] } { toList:=[] })]=some (Zvb a b fs):=rfl
def ZcK(a b:Int)(fs:List AV)(n0 n1:Int):List AFrame:=[{ fn:=117,N:=21,env:=[(1,AV.val (Go.Value.func (Go.Fn.func 110) { toList:=[Go.Value.agg { toList:=[Go.Value.int .i64 a,Go.Value.int .i64 b] }] } { toList:=[] })),(8,AV.list (Row.big (Sh.agg [Sh.int .i64,Sh.int .i64,Sh.int .i64,Sh.ints .i64]) fs)),(9,AV.int .i64 n0),(10,AV.int .i64 n1)],todo:=.code (ACode.gh [] Zvj)::ZES,defs:=[],rnd:=none,ret:=false,res:=[ARes.tmp 4] }]
def Zcb(a:Int)(b:Int)(fs:List AV)(n0:Int)(n1:Int):Zaa:=[]
abbrev ZgF(a:Int)(b:Int)(fs:List AV)(n0:Int)(n1:Int):List AFrame×Zaa:=(ZcK a b fs n0 n1,Zcb a b fs n0 n1)
theorem ZCI(A:Ar)(a b:Int)(fs:List AV):Zad A tab BOd 14 [] (ZKt a b fs) []=
 some (tr [4] [],
  ZgF (a) (b) (fs) (A.int (A.lenA fs)) (0)):=by kernel_rfl
theorem ZB3(A:Ar)(a b:Int)(fs:List AV)(n0 n1:Int):ZaE A tab BOd 36 [true,true] 117 (ZcK a b fs n0 n1) (Zcb a b fs n0 n1)=
 some (tr [3,3,5,0,1] [A.not (A.eq (Zd2 a b ((A.nthA fs (A.nat n1)).cellAt 0).toI ((A.nthA fs (A.nat n1)).cellAt 1).toI ((A.nthA fs (A.nat n1)).cellAt 2).toI ((A.nthA fs (A.nat n1)).cellAt 3).toIs) 0),decide (List.length ((A.nthA fs (A.nat n1)).cellAt 3).toIs≤1000000),Zab (Zab (A.le 0 n1) (Nat.blt (A.nat n1) (A.lenA fs))) true,A.lt n1 n0],
  AV.int .i64 (Zd2 a b ((A.nthA fs (A.nat n1)).cellAt 0).toI ((A.nthA fs (A.nat n1)).cellAt 1).toI ((A.nthA fs (A.nat n1)).cellAt 2).toI ((A.nthA fs (A.nat n1)).cellAt 3).toIs),none):=by kernel_rfl
theorem ZFW(A:Ar)(a b:Int)(fs:List AV)(n0 n1:Int):Zad A tab BOd 38 [true,false] (ZcK a b fs n0 n1) (Zcb a b fs n0 n1)=
 some (tr [1,0,3,5,0,1] [A.inR .i64 (A.add n1 1),!A.not (A.eq (Zd2 a b ((A.nthA fs (A.nat n1)).cellAt 0).toI ((A.nthA fs (A.nat n1)).cellAt 1).toI ((A.nthA fs (A.nat n1)).cellAt 2).toI ((A.nthA fs (A.nat n1)).cellAt 3).toIs) 0),decide (List.length ((A.nthA fs (A.nat n1)).cellAt 3).toIs≤1000000),Zab (Zab (A.le 0 n1) (Nat.blt (A.nat n1) (A.lenA fs))) true,A.lt n1 n0],
  ZgF (a) (b) (fs) (n0) (A.add n1 1)):=by kernel_rfl
theorem ZC7(A:Ar)(a b:Int)(fs:List AV)(n0 n1:Int):ZaE A tab BOd 13 [false] 117 (ZcK a b fs n0 n1) (Zcb a b fs n0 n1)=
 some (tr [2,1] [!A.lt n1 n0],
  AV.int .i64 0,none):=by kernel_rfl
end Go.Proofs.Ytjhdnpmojhkbjaa
/- Contracts as a list. No condition. -/
namespace Go.Proofs.Ytjhdnpmojhkbjaa
def dtF(x:AV):List Int:=(AV.cellAt x 3).toIs
def frW(a b:Int)(x:AV):Int:=Zd2 a b (AV.toI (AV.cellAt x 0)) (AV.toI (AV.cellAt x 1)) (AV.toI (AV.cellAt x 2)) (AV.toIs (AV.cellAt x 3))
def Zfe(a b:Int):List AV→Int
 |[]=>0
 |f::fs=>if frW a b f=0 then Zfe a b fs else frW a b f
def ZcJ(fs:List AV):Bool:=decide (fs.length≤1000000)&&fs.all fun f=>decide ((dtF f).length≤1000000)
theorem ZpV{C:Ctx}(hC:C.P=Try.prog)(a b:Int)(fs:List AV)(hl:fs.length≤1000000)(hd:∀f∈fs,(dtF f).length≤1000000):∀(d i:Nat),fs.length-i=d→i≤fs.length→
 Ev C (ZcK a b fs fs.length i) (Zcb a b fs fs.length i) (ZeX 117 (.int .i64 (Zfe a b (fs.drop i))) none):=by
 intro d
 induction d with
 |zero=>
  intro i hd' hi
  exact fin hC Zlm (ZC7 std a b fs fs.length i) (by simp;omega) (by rw[List.drop_of_length_le (by omega)];rfl) rfl
 |succ d ih=>
  intro i hd' hi
  have hlt:i<fs.length:=by omega
  have hg:fs.getD i .top=fs[i]:=by simp[hlt]
  have hdd:(AV.toIs (AV.cellAt fs[i] 3)).length≤1000000:=hd fs[i] (List.getElem_mem hlt)
  rw[List.drop_eq_getElem_cons hlt,Zfe]
  by_cases h:frW a b fs[i]=0
  ·rw[if_pos h]
   have h':=h
   unfold frW at h'
   have hw:=ZFW std a b fs fs.length i
   simp only[ZaB,Zau,Int.toNat_natCast,hg,h']at hw
   exact go hC Zlm hw (by simp[hlt,hdd];omega) (ih (i+1) (by omega) (by omega))
  ·rw[if_neg h]
   have h':=h
   unfold frW at h'
   have hw:=ZB3 std a b fs fs.length i
   simp only[ZaB,Zau,Int.toNat_natCast,hg]at hw
   exact fin hC Zlm hw (by simp[hlt,hdd,h']) rfl rfl
theorem ZwH(a b:Int)(fs:List AV)(h:ZcJ fs=true):ZaK Try.prog 117 [.list (.big ZAC fs),AV.val (Value.func (Fn.func 110) { toList:=[Value.agg { toList:=[Value.int IntKind.i64 a,Value.int IntKind.i64 b] }] } { toList:=[] })] (.int .i64 (Zfe a b fs)) none:=by
 unfold ZcJ at h
 simp only[Bool.and_eq_true,decide_eq_true_eq,List.all_eq_true]at h
 exact start (ZsG a b fs) fun C hC=>go hC Zlm (ZCI std a b fs) (by simp) (ZpV hC a b fs h.1 h.2 fs.length 0 (by omega) (by omega))
def k117:Ctr:=⟨117,0,fun _ a=>match a with |[.list (.big (.agg [.int .i64, .int .i64, .int .i64, .ints .i64]) fs),AV.val (Value.func (Fn.func 110) { toList:=[Value.agg { toList:=[Value.int IntKind.i64 a,Value.int IntKind.i64 b] }] } { toList:=[] })]=>some (decide (ZcJ fs=true), .int .i64 (Zfe a b fs),none) |_=>none⟩
theorem ZAx:k117.OK Try.prog:=fun pa args r fr h=>by
 simp only[k117]at h
 split at h
 ·simp only[Option.some.injEq,Prod.mk.injEq,decide_eq_true_eq]at h
  obtain⟨h0,rfl,rfl⟩:=h
  exact ZwH _ _ _ h0
 ·cases h
def BOe:List Ctr:=[k117]++BOd
theorem Zuy:Zap Try.prog BOe:=⟨ZAx,Zlm⟩
end Go.Proofs.Ytjhdnpmojhkbjaa
/- Paths of functions, printed by the explorer (Gx). No condition. -/
namespace Go.Proofs.Ytjhdnpmojhkbjaa
set_option maxRecDepth 100000
set_option linter.unusedVariables false
def ZFy(a:Int)(b:Int)(c:Int)(fs:List AV):AFrame:={ fn:=78,N:=28,env:=[(0,AV.agg (Row.gen [AV.int .i64 a,AV.int .i64 b])),(1,AV.int .i64 c),(2,AV.list (Row.big (Sh.agg [Sh.int .i64,Sh.int .i64,Sh.int .i64,Sh.ints .i64]) fs))],todo:=[.code a78.code],defs:=[],rnd:=none,ret:=false,res:=[ARes.cell 6 true 2,ARes.tmp 7] }
def ZN3(a:Int)(b:Int)(c:Int)(fs:List AV):List AFrame:=[(ZFy a b c fs)]
theorem ZxF(a:Int)(b:Int)(c:Int)(fs:List AV):Zam tab 78 [AV.agg (Row.gen [AV.int .i64 a,AV.int .i64 b]),AV.int .i64 c,AV.list (Row.big (Sh.agg [Sh.int .i64,Sh.int .i64,Sh.int .i64,Sh.ints .i64]) fs)]=some (ZFy a b c fs):=rfl
theorem ZKg(A:Ar)(a b c:Int)(fs:List AV):ZaE A tab BOe 55 [] 78 (ZN3 a b c fs) []=
 some (tr [3,0,0,18,0,30] [decide (List.length [Zaq [Zao a b,ZaP b c],Zak (A.le (A.int (A.lenA fs)) 40) 8,Zfe a b fs]≤1000000),List.all [AV.int .i64 (Zaq [Zao a b,ZaP b c]),AV.int .i64 (Zak (A.le (A.int (A.lenA fs)) 40) 8),AV.int .i64 (Zfe a b fs)] fun x=>AV.bx x&&Nat.beq (Zac A x) 1,decide (ZcJ fs=true),decide (List.length [Zao a b,ZaP b c]≤1000000),List.all [AV.int .i64 (Zao a b),AV.int .i64 (ZaP b c)] fun x=>AV.bx x&&Nat.beq (Zac A x) 1],
  AV.tup [AV.agg (Row.gen [.int .i64 a, .int .i64 b]),AV.int .i64 (Zaq [Zaq [Zao a b,ZaP b c],Zak (A.le (A.int (A.lenA fs)) 40) 8,Zfe a b fs])],none):=by kernel_rfl
end Go.Proofs.Ytjhdnpmojhkbjaa
/- Contracts as a list. No condition. -/
namespace Go.Proofs.Ytjhdnpmojhkbjaa
def ZbW(a b c:Int)(fs:List AV):Int:=Zaq [Zaq [Zao a b,ZaP b c],Zak (decide ((fs.length:Int)≤40)) 8,Zfe a b fs]
theorem ZGX(a b c:Int)(fs:List AV)(h:ZcJ fs=true):ZaK Try.prog 78 [.agg (.gen [.int .i64 a, .int .i64 b]), .int .i64 c, .list (.big ZAC fs)] (.tup [.agg (.gen [.int .i64 a, .int .i64 b]), .int .i64 (ZbW a b c fs)]) none:=
 start (ZxF a b c fs) fun C hC=>fin hC Zuy (ZKg std a b c fs) (by simp[h,AV.bx,Zac]) (by simp[ZbW]) rfl
def k78:Ctr:=⟨78,0,fun _ a=>match a with |[.agg (.gen [.int .i64 a, .int .i64 b]), .int .i64 c, .list (.big (.agg [.int .i64, .int .i64, .int .i64, .ints .i64]) fs)]=>some (decide (ZcJ fs=true), .tup [.agg (.gen [.int .i64 a, .int .i64 b]), .int .i64 (ZbW a b c fs)],none) |_=>none⟩
theorem ZBg:k78.OK Try.prog:=fun pa args r fr h=>by
 simp only[k78]at h
 split at h
 ·simp only[Option.some.injEq,Prod.mk.injEq,decide_eq_true_eq]at h
  obtain⟨h0,rfl,rfl⟩:=h
  exact ZGX _ _ _ _ h0
 ·cases h
def BOf:List Ctr:=[k78]++BOe
theorem ZiH:Zap Try.prog BOf:=⟨ZBg,Zuy⟩
end Go.Proofs.Ytjhdnpmojhkbjaa
/- Paths of functions, printed by the explorer (Gx). No condition. -/
namespace Go.Proofs.Ytjhdnpmojhkbjaa
set_option maxRecDepth 100000
set_option linter.unusedVariables false
def ZBR(a:Int)(b:Int)(fs:List AV):AFrame:={ fn:=20,N:=25,env:=[(0,AV.agg (Row.gen [AV.int .i64 a,AV.int .i64 b])),(1,AV.list (Row.big (Sh.agg [Sh.int .i64,Sh.int .i64,Sh.int .i64,Sh.ints .i64]) fs))],todo:=[.code a20.code],defs:=[],rnd:=none,ret:=false,res:=[ARes.tmp 4] }
def ZLj(a:Int)(b:Int)(fs:List AV):List AFrame:=[(ZBR a b fs)]
theorem Zwp(a:Int)(b:Int)(fs:List AV):Zam tab 20 [AV.agg (Row.gen [AV.int .i64 a,AV.int .i64 b]),AV.list (Row.big (Sh.agg [Sh.int .i64,Sh.int .i64,Sh.int .i64,Sh.ints .i64]) fs)]=some (ZBR a b fs):=rfl
def Zeb(a b:Int)(fs:List AV)(n0:Int):List AFrame:=[{ fn:=20,N:=25,env:=[(1,AV.list (Row.big (Sh.agg [Sh.int .i64,Sh.int .i64,Sh.int .i64,Sh.ints .i64]) fs)),(2,AV.ptr 20003 0 0 0),(5,AV.int .i64 n0)],todo:=.code (ACode.gh [] ZFv)::ZHN,defs:=[],rnd:=none,ret:=false,res:=[ARes.tmp 4] }]
def Zdc(a:Int)(b:Int)(fs:List AV)(n0:Int):Zaa:=[(20003,{ base:=0,blks:=[Blk.row 23 2 (Row.gen [AV.agg (Row.gen [AV.int .i64 a,AV.int .i64 b])])] })]
abbrev Zi8(a:Int)(b:Int)(fs:List AV)(n0:Int):List AFrame×Zaa:=(Zeb a b fs n0,Zdc a b fs n0)
theorem ZIe(A:Ar)(a b:Int)(fs:List AV):ZaE A tab BOf 18 [true] 20 (ZLj a b fs) []=
 some (tr [2,5] [A.lt 40 (A.int (A.lenA fs))],
  AV.int .i64 8,none):=by kernel_rfl
theorem ZJM(A:Ar)(a b:Int)(fs:List AV):Zad A tab BOf 22 [false] (ZLj a b fs) []=
 some (tr [1,5] [!A.lt 40 (A.int (A.lenA fs))],
  Zi8 (a) (b) (fs) (0)):=by kernel_rfl
theorem ZKq(A:Ar)(a b:Int)(fs:List AV)(n0:Int):ZaE A tab BOf 28 [true,true] 20 (Zeb a b fs n0) (Zdc a b fs n0)=
 some (tr [3,3,1,3,4] [A.not (A.eq (Zdg a b ((A.nthA fs (A.nat n0)).cellAt 0).toI ((A.nthA fs (A.nat n0)).cellAt 1).toI ((A.nthA fs (A.nat n0)).cellAt 2).toI ((A.nthA fs (A.nat n0)).cellAt 3).toIs) 0),decide ((-1000000≤a∧a≤1000000)∧ -1000000≤b∧b≤1000000),Zab (Zab (A.le 0 n0) (Nat.blt (A.nat n0) (A.lenA fs))) true,A.lt n0 (A.int (A.lenA fs))],
  AV.int .i64 (Zdg a b ((A.nthA fs (A.nat n0)).cellAt 0).toI ((A.nthA fs (A.nat n0)).cellAt 1).toI ((A.nthA fs (A.nat n0)).cellAt 2).toI ((A.nthA fs (A.nat n0)).cellAt 3).toIs),none):=by kernel_rfl
theorem ZJk(A:Ar)(a b:Int)(fs:List AV)(n0:Int):Zad A tab BOf 31 [true,false] (Zeb a b fs n0) (Zdc a b fs n0)=
 some (tr [1,1,3,1,3,4] [A.inR .i64 (A.add n0 1),!A.not (A.eq (Zdg a b ((A.nthA fs (A.nat n0)).cellAt 0).toI ((A.nthA fs (A.nat n0)).cellAt 1).toI ((A.nthA fs (A.nat n0)).cellAt 2).toI ((A.nthA fs (A.nat n0)).cellAt 3).toIs) 0),decide ((-1000000≤a∧a≤1000000)∧ -1000000≤b∧b≤1000000),Zab (Zab (A.le 0 n0) (Nat.blt (A.nat n0) (A.lenA fs))) true,A.lt n0 (A.int (A.lenA fs))],
  Zi8 (a) (b) (fs) (A.add n0 1)):=by kernel_rfl
theorem ZH3(A:Ar)(a b:Int)(fs:List AV)(n0:Int):ZaE A tab BOf 16 [false] 20 (Zeb a b fs n0) (Zdc a b fs n0)=
 some (tr [2,4] [!A.lt n0 (A.int (A.lenA fs))],
  AV.int .i64 0,none):=by kernel_rfl
end Go.Proofs.Ytjhdnpmojhkbjaa
