/- Contracts as a list. No condition. -/
import Derived.Test.YthfcimmcccocmaaGreatDoorSp
import Derived.Lib.Join
import Derived.Lib.ItoaLen
namespace Go.Proofs.YthfcimmcccocmaaGreatDoor
@[simp] theorem ZBb (l:List AV):std.lenA l=l.length:=rfl
@[simp] theorem ZBp (l:List AV) (j:Nat):std.nthA l j=l.getD j .top:=rfl
theorem ZfP(p:List UInt8)(B:Nat):∀r:List (List UInt8),(∀x∈r,x.length≤B)→(Lib.joinTail p r).length≤r.length*(B+p.length)
 |[],_=>by simp[Lib.joinTail]
 |x::r,h=>by
  have ih:=ZfP p B r fun y hy=>h y (List.mem_cons_of_mem _ hy)
  have hx:=h x List.mem_cons_self
  simp only[Lib.joinTail,List.map_cons,List.flatten_cons,List.length_append,List.length_cons]at ih⊢
  rw[Nat.add_mul];omega
theorem Zuq(p:List UInt8)(B:Nat)(xs:List (List UInt8))(h:∀x∈xs,x.length≤B):(Lib.join xs p).length≤xs.length*(B+p.length):=by
 cases xs with
 |nil=>simp[Lib.join_nil]
 |cons x r=>
  have ih:=ZfP p B r fun y hy=>h y (List.mem_cons_of_mem _ hy)
  have hx:=h x List.mem_cons_self
  rw[Lib.join_cons,List.length_append,List.length_cons,Nat.add_mul];omega
def Zar(xs:List Int):List UInt8:=Lib.join (xs.map Lib.itoa) [32]
theorem Zf8{α:Type}{xs:List α}{k:Nat}{d:α}(h:k<xs.length):xs.take (k+1)=xs.take k++[xs.getD k d]:=by
 rw[List.take_add_one,List.getElem?_eq_getElem h,List.getD_eq_getElem?_getD,List.getElem?_eq_getElem h];rfl
theorem ZdG{α:Type}{xs:List α}{n:Nat}{d:α}(h:n<xs.length):xs.getD n d∈xs:=by
 rw[List.getD_eq_getElem?_getD,List.getElem?_eq_getElem h];exact List.getElem_mem h
def ZmW(s:List UInt8)(c:Int):Nat→Nat→Nat→List AV
 |0,_,f=>[.str (s.drop f)]
 |m+1,i,f=>if((s.getD i 0).toNat:Int)=c then .str ((s.drop f).take (i-f))::ZmW s c m (i+1) (i+1)else ZmW s c m (i+1) f
section
variable {C:Ctx}(hC:C.P=Tryz.prog)(s:List UInt8)(c:Int)(hl:s.length≤1000000)
include hC hl
theorem Zsq:∀(m i f:Nat) (L:List AV),i+m=s.length→f≤i→L.length≤i→Ev C (Zgv s c f i L) (Zd9 s c f i L) (ZdC 69 (.row 0 0) (some ⟨9,1, .big .str (L++ZmW s c m i f)⟩))
 |0,i,f,L,hi,hf,hL=>tgo hC ZaR ZhC (by
  obtain rfl:i=s.length:=by omega
  have e:(s.drop f).take (s.length-f)=s.drop f:=List.take_of_length_le (by simp)
  simp[-List.getD_eq_getElem?_getD,Zc1,sub3,ZmW,AV.bx,Zag,e]
  omega)
 |m+1,i,f,L,hi,hf,hL=>by
  have hlt:(i:Int)<s.length:=by omega
  have hlt2:i<s.length:=by omega
  refine tgo hC ZaR ZhC ?_
  rw[ZmW]
  by_cases hc:((s.getD i 0).toNat:Int)=c
  ·have ih:=Zsq m (i+1) (i+1) (L++[.str ((s.drop f).take (i-f))]) (by omega) (by omega) (by simp;omega)
   rw[if_pos hc]
   simp[-List.getD_eq_getElem?_getD,Zc1,sub3,hlt,hlt2,hc,AV.bx,Zag]
   exact⟨by omega,by simpa using ih⟩
  ·have ih:=Zsq m (i+1) f L (by omega) (by omega) (by omega)
   rw[if_neg hc]
   simp[-List.getD_eq_getElem?_getD,Zc1,sub3,hlt,hlt2,hc]
   exact⟨by omega,by simpa using ih⟩
theorem ZxN:∀(m i:Nat),i+m=s.length→Ev C (Zgz s c i) (Zen s c i) (ZdC 69 (.row 0 0) (some ⟨9,1, .big .str (ZmW s c m i 0)⟩))
 |0,i,hi=>tgo hC ZaR Zhv (by
  obtain rfl:i=s.length:=by omega
  simp[-List.getD_eq_getElem?_getD,Zda,sub3,ZmW,AV.bx,Zag])
 |m+1,i,hi=>by
  have hlt:(i:Int)<s.length:=by omega
  have hlt2:i<s.length:=by omega
  refine tgo hC ZaR Zhv ?_
  rw[ZmW]
  by_cases hc:((s.getD i 0).toNat:Int)=c
  ·have ih:=Zsq hC s c hl m (i+1) (i+1) [.str ((s.drop 0).take (i-0))] (by omega) (by omega) (by simp)
   rw[if_pos hc]
   simp[-List.getD_eq_getElem?_getD,Zda,sub3,hlt,hlt2,hc,AV.bx,Zag]
   exact⟨by omega,by simpa using ih⟩
  ·have ih:=ZxN m (i+1) (by omega)
   rw[if_neg hc]
   simp[-List.getD_eq_getElem?_getD,Zda,sub3,hlt,hlt2,hc]
   exact⟨by omega,by simpa using ih⟩
end
def Zoo(s:List UInt8)(c:Int):List AV:=ZmW s c s.length 0 0
theorem Zrq(s:List UInt8)(c:Int)(hl:s.length≤1000000):Zae Tryz.prog 69 [.str s, .int .u8 c] (.row 0 0) (some ⟨9,1, .big .str (Zoo s c)⟩):=
 start (Zuh s c) fun _ hC=>tgo hC ZaR ZAx (by
  have:=ZxN hC s c hl s.length 0 (by omega)
  simp only[Zv9]
  simpa[Zoo]using this)
def ZoK(s:List UInt8):Nat→Nat→Int→Option Int
 |0,_,n=>some n
 |m+1,i,n=>if((s.getD i 0).toNat:Int)<48∨57<((s.getD i 0).toNat:Int)then none else ZoK s m (i+1) (10*n+(((s.getD i 0).toNat:Int)-48))
def ZcF(s:List UInt8):Nat:=if 0<s.length∧(s.getD 0 0).toNat=45 then 1 else 0
def Zj3(s:List UInt8)(d:Int):Bool:=decide (s.length≠ZcF s∧(s.length:Int)-ZcF s≤d∧¬((s.getD (ZcF s) 0).toNat=48∧1<s.length))
def Zev(s:List UInt8)(d:Int):Option Int:=if Zj3 s d=true then(ZoK s (s.length-ZcF s) (ZcF s) 0).map fun n=>if ZcF s=1 then -n else n else none
def ZmU(o:Option Int):AV:=.tup [.int .i64 (o.getD 0), .bool o.isSome]
theorem Zo7(k:Nat)(n x:Int)(h:0≤n∧n<10^k)(hx:0≤x∧x≤9):0≤10*n+x∧10*n+x<10^(k+1):=by
 have:(10:Int)^(k+1)=10*10^k:=by rw[Int.pow_succ];omega
 omega
theorem Zu0{k:Nat}(h:k≤18):(10:Int)^k≤1000000000000000000:=by
 have:∀j,j≤18→(10:Int)^j≤1000000000000000000:=by decide
 exact this k h
section
variable {C:Ctx}(hC:C.P=Tryz.prog)(s:List UInt8)(a:Nat)(ha:a≤1)(hl:s.length≤18+a)
include hC ha hl
theorem Zh1:∀(m i:Nat) (n:Int),i+m=s.length→a≤i→(0≤n∧n<10^(i-a))→Ev C (ZgG s a i n) (ZeL s a i n) (ZdC 70 (ZmU ((ZoK s m i n).map fun n=>if a=1 then -n else n)) none)
 |0,i,n,hi,hai,hn=>tgo hC ZaR Zg8 (by
  have hp:=Zu0 (k:=i-a) (by omega)
  by_cases h1:a=1
  ·subst h1
   simp[Zbu,show ¬(i:Int)<s.length by omega,ZoK,ZmU]
   omega
  ·have h0:a=0:=by omega
   subst h0
   simp[Zbu,show ¬(i:Int)<s.length by omega,ZoK,ZmU])
 |m+1,i,n,hi,hai,hn=>by
  have hlt:(i:Int)<s.length:=by omega
  have hlt2:i<s.length:=by omega
  refine tgo hC ZaR Zg8 ?_
  rw[ZoK]
  have hu:(s.getD i 0).toNat<256:=(s.getD i 0).toNat_lt
  by_cases h1:((s.getD i 0).toNat:Int)<48
  ·rw[if_pos (.inl h1)]
   simp[-List.getD_eq_getElem?_getD,Zbu,hlt,hlt2,h1,ZmU]
  ·by_cases h2:57<((s.getD i 0).toNat:Int)
   ·rw[if_pos (.inr h2)]
    simp[-List.getD_eq_getElem?_getD,Zbu,hlt,hlt2,h1,h2,ZmU]
   ·rw[if_neg (by omega)]
    have hs:=Zo7 (i-a) n (((s.getD i 0).toNat:Int)-48) hn (by omega)
    have hp:=Zu0 (k:=i-a+1) (by omega)
    have ih:=Zh1 m (i+1) (10*n+(((s.getD i 0).toNat:Int)-48)) (by omega) (by omega) (by rw[show i+1-a=i-a+1 by omega];exact hs)
    have hu8:std.inR .u8 (((s.getD i 0).toNat:Int)-48)=true:=decide_eq_true ⟨by show(0:Int)≤_;omega,by show _≤(255:Int);omega⟩
    simp[-List.getD_eq_getElem?_getD,Zbu,hlt,hlt2,h1,h2,hu8]
    exact⟨by omega,by simpa[-List.getD_eq_getElem?_getD]using ih⟩
end
theorem ZjG(s:List UInt8)(d:Int)(h:d≤18∧s.length≤1000000):Zae Tryz.prog 70 [.str s, .int .i64 d] (ZmU (Zev s d)) none:=
 start (ZsH s d) fun C hC=>tgo hC ZaR ZyU (by
  unfold Zwt
  by_cases h0:s.length=0
  ·have ho:Zev s d=none:=by unfold Zev;rw[if_neg (by simp[Zj3,ZcF,h0])]
   rw[ho]
   simp[h0,ZmU]
  ·have hp:(0:Int)<s.length:=by omega
   have hp2:0<s.length:=by omega
   by_cases h45:(s.getD 0 0).toNat=45
   ·have hat:ZcF s=1:=by unfold ZcF;rw[if_pos ⟨hp2,h45⟩]
    by_cases h1:s.length=1
    ·have ho:Zev s d=none:=by unfold Zev;rw[if_neg (by simp[Zj3,hat,h1])]
     rw[ho]
     simp[-List.getD_eq_getElem?_getD,hp,hp2,h45,h1,ZmU]
    ·have h1i:¬(s.length:Int)=1:=by omega
     have h1l:(1:Int)<s.length:=by omega
     have h1n:1<s.length:=by omega
     by_cases h2:d<(s.length:Int)-1
     ·have ho:Zev s d=none:=by unfold Zev;rw[if_neg (by simp[Zj3,hat];omega)]
      rw[ho]
      simp[-List.getD_eq_getElem?_getD,hp,hp2,h45,h1,h1i,h2,ZmU]
      omega
     ·by_cases h3:(s.getD 1 0).toNat=48
      ·have ho:Zev s d=none:=by unfold Zev;rw[if_neg (by simp[-List.getD_eq_getElem?_getD,Zj3,hat,h3,h1n])]
       rw[ho]
       simp[-List.getD_eq_getElem?_getD,hp,hp2,h45,h1,h1i,h1l,h1n,h2,h3,ZmU]
       omega
      ·have h3i:¬((s.getD 1 0).toNat:Int)=48:=by omega
       have ho:Zev s d=(ZoK s (s.length-1) 1 0).map fun n=>if(1:Nat)=1 then -n else n:=by
        unfold Zev;rw[if_pos (by simp[-List.getD_eq_getElem?_getD,Zj3,hat,h3];omega),hat]
       have ih:=Zh1 hC s 1 (by omega) (by omega) (s.length-1) 1 0 (by omega) (by omega) (by decide)
       rw[ho]
       simp[-List.getD_eq_getElem?_getD,hp,hp2,h45,h1,h1i,h1l,h1n,h2,h3i]
       exact⟨by omega,by simpa[-List.getD_eq_getElem?_getD]using ih⟩
   ·have hat:ZcF s=0:=by unfold ZcF;rw[if_neg (fun hh=>h45 hh.2)]
    have h45i:¬((s.getD 0 0).toNat:Int)=45:=by omega
    have h0i:¬(s.length:Int)=0:=by omega
    by_cases h2:d<(s.length:Int)
    ·have ho:Zev s d=none:=by unfold Zev;rw[if_neg (by simp[Zj3,hat];omega)]
     rw[ho]
     simp[-List.getD_eq_getElem?_getD,hp,hp2,h45i,h0,h0i,h2,ZmU]
     omega
    ·have loop:(Zj3 s d=true)→Zev s d=(ZoK s s.length 0 0).map fun n=>if(0:Nat)=1 then -n else n:=fun hg=>by
      unfold Zev;rw[if_pos hg,hat];rfl
     have ih:=Zh1 hC s 0 (by omega) (by omega) s.length 0 0 (by omega) (by omega) (by decide)
     by_cases h3:(s.getD 0 0).toNat=48
     ·by_cases h4:1<s.length
      ·have ho:Zev s d=none:=by unfold Zev;rw[if_neg (by simp[-List.getD_eq_getElem?_getD,Zj3,hat,h3,h4])]
       rw[ho]
       simp[-List.getD_eq_getElem?_getD,hp,hp2,h45i,h0,h0i,h2,h3,h4,show(1:Int)<s.length by omega,ZmU]
       omega
      ·rw[loop (by simp[-List.getD_eq_getElem?_getD,Zj3,hat,h3,h4,h0];omega)]
       simp[-List.getD_eq_getElem?_getD,hp,hp2,h45i,h0,h0i,h2,h3,h4,show ¬(1:Int)<s.length by omega]
       exact⟨by omega,by simpa[-List.getD_eq_getElem?_getD]using ih⟩
     ·have h3i:¬((s.getD 0 0).toNat:Int)=48:=by omega
      rw[loop (by simp[-List.getD_eq_getElem?_getD,Zj3,hat,h3,h0];omega)]
      simp[-List.getD_eq_getElem?_getD,hp,hp2,h45i,h0,h0i,h2,h3i]
      exact⟨by omega,by simpa[-List.getD_eq_getElem?_getD]using ih⟩)
def Za9(s:List UInt8)(d:Int):Int:=(Zev s d).getD 0
def ZgJ(s:List UInt8)(d:Int):Bool:=(Zev s d).isSome
theorem ZlR(s:List UInt8)(d:Int)(h:d≤18∧s.length≤1000000):Zae Tryz.prog 70 [.str s, .int .i64 d] (.tup [.int .i64 (Za9 s d), .bool (ZgJ s d)]) none:=ZjG s d h
attribute [irreducible] Zoo Za9 ZgJ Zar
def k69:Ctr:=⟨69,0,fun _ a=>match a with |[.str s, .int .u8 c]=>some (decide (s.length≤1000000), .row 0 0,some ⟨9,1, .big .str (Zoo s c)⟩) |_=>none⟩
theorem Zvt:k69.OK Tryz.prog:=fun pa args r fr h=>by
 simp only[k69]at h
 split at h
 ·simp only[Option.some.injEq,Prod.mk.injEq,decide_eq_true_eq]at h
  obtain⟨h0,rfl,rfl⟩:=h
  exact Zrq _ _ h0
 ·cases h
def k70:Ctr:=⟨70,0,fun _ a=>match a with |[.str s, .int .i64 d]=>some (decide (d≤18∧s.length≤1000000), .tup [.int .i64 (Za9 s d), .bool (ZgJ s d)],none) |_=>none⟩
theorem ZwM:k70.OK Tryz.prog:=fun pa args r fr h=>by
 simp only[k70]at h
 split at h
 ·simp only[Option.some.injEq,Prod.mk.injEq,decide_eq_true_eq]at h
  obtain⟨h0,rfl,rfl⟩:=h
  exact ZlR _ _ h0
 ·cases h
def N2:List Ctr:=[k69,k70]++N1
theorem Zzq:ZaL Tryz.prog N2:=⟨Zvt,⟨ZwM,ZaR⟩⟩
end Go.Proofs.YthfcimmcccocmaaGreatDoor
/- Contracts as a list. No condition. -/
namespace Go.Proofs.YthfcimmcccocmaaGreatDoor
theorem Zxk(n:Int):(Int.tdiv n 10).natAbs=n.natAbs/10:=by
 rw[Int.natAbs_tdiv];rfl
theorem Zvc(n:Int):max (Int.tmod n 10) (-(Int.tmod n 10))=((n.natAbs%10:Nat):Int):=by
 have h1:(Int.tmod n 10).natAbs=n.natAbs%10:=by rw[Int.natAbs_tmod];rfl
 omega
def ZoJ(u:Nat):List UInt8:=if u=0 then []else Lib.decDigits u
theorem ZnK(u:Nat)(h:u≠0):ZoJ u=ZoJ (u/10)++[UInt8.ofNat (48+u%10)]:=by
 unfold ZoJ
 rw[if_neg h,Lib.decDigits]
 by_cases h1:u<10
 ·rw[dif_pos h1,if_pos (by omega),show u%10=u by omega];rfl
 ·rw[dif_neg h1,if_neg (by omega)]
section
variable {C:Ctx}(hC:C.P=Tryz.prog)(l0:List UInt8)(h0:l0.length≤1)
include hC h0
theorem Zh4:∀(k:Nat) (n:Int) (l2:List UInt8),n.natAbs<10^k→l2.length+k≤40→(-9223372036854775808≤n∧n≤9223372036854775807)→Ev C (Zfx l0 n l2) (Zew l0 n l2) (ZdC 71 (.str (l0++(ZoJ n.natAbs++l2))) none)
 |0,n,l2,hk,hl,hn=>tgo hC ZaR Zhl (by
  obtain rfl:n=0:=by
   simp at hk;exact hk
  simp[Zc8,ZoJ]
  omega)
 |k+1,n,l2,hk,hl,hn=>by
  refine tgo hC ZaR Zhl ?_
  by_cases hz:n=0
  ·subst hz
   simp[Zc8,ZoJ]
   omega
  ·have e1:=Zxk n
   have e2:=Zvc n
   have hq:(Int.tdiv n 10).natAbs<10^k:=by
    rw[e1]
    have:(10:Nat)^(k+1)=10^k*10:=Nat.pow_succ ..
    omega
   have ih:=Zh4 k (Int.tdiv n 10) ([UInt8.ofNat (48+n.natAbs%10)]++l2) hq (by simp;omega) (by omega)
   rw[e1]at ih
   rw[ZnK n.natAbs (by omega)]
   have hm:n.natAbs%10<10:=Nat.mod_lt _ (by decide)
   have e3:(48+max (Int.tmod n 10) (-(Int.tmod n 10))).toNat=48+n.natAbs%10:=by rw[e2];omega
   have hu8:std.inR .u8 (48+max (Int.tmod n 10) (-(Int.tmod n 10)))=true:=decide_eq_true ⟨by show(0:Int)≤_;omega,by show _≤(255:Int);omega⟩
   simp[Zc8,hz,hu8,e3,AV.bx,Zag]
   refine⟨by omega,?_⟩
   simpa using ih
end
theorem Zi1(n:Int)(h:Zde n=true):Zae Tryz.prog 71 [.int .i64 n] (.str (Lib.itoa n)) none:=
 start (ZsU n) fun C hC=>tgo hC ZaR Zz7 (by
  have hn:=i64B_iff.1 h
  unfold Zxw
  have hb:n.natAbs<10^20:=by
   have:(10:Nat)^20=100000000000000000000:=by decide
   omega
  by_cases hz:n=0
  ·subst hz
   have:Lib.itoa 0=[48]:=by unfold Lib.itoa;rw[if_neg (by decide),Lib.decDigits];rfl
   simp[this]
  ·by_cases hneg:n<0
   ·have ih:=Zh4 hC [45] (by simp) 20 n [] hb (by simp) hn
    have e:Lib.itoa n=[45]++(ZoJ n.natAbs++[]):=by
     unfold Lib.itoa ZoJ
     rw[if_pos hneg,if_neg (by omega)];simp
    rw[e]
    simp[hz,hneg]
    simpa using ih
   ·have ih:=Zh4 hC [] (by simp) 20 n [] hb (by simp) hn
    have e:Lib.itoa n=[]++(ZoJ n.natAbs++[]):=by
     unfold Lib.itoa ZoJ
     rw[if_neg hneg,if_neg (by omega)]
     simp
     congr 1
     omega
    rw[e]
    simp[hz,hneg]
    simpa using ih)
def k71:Ctr:=⟨71,0,fun _ a=>match a with |[.int .i64 n]=>some (decide (Zde n=true), .str (Lib.itoa n),none) |_=>none⟩
theorem ZxU:k71.OK Tryz.prog:=fun pa args r fr h=>by
 simp only[k71]at h
 split at h
 ·simp only[Option.some.injEq,Prod.mk.injEq,decide_eq_true_eq]at h
  obtain⟨h0,rfl,rfl⟩:=h
  exact Zi1 _ h0
 ·cases h
def N3:List Ctr:=[k71]++N2
theorem Zzw:ZaL Tryz.prog N3:=⟨ZxU,Zzq⟩
end Go.Proofs.YthfcimmcccocmaaGreatDoor
/- Contracts as a list. No condition. -/
namespace Go.Proofs.YthfcimmcccocmaaGreatDoor
def ZbL:List Int→Int
 |[]=>0
 |x::xs=>if x=0 then ZbL xs else x
def ZaK(b:Bool)(e:Int):Int:=if b=true then 0 else e
def Zan(n a b:Int):Bool:=decide (a≤n∧n≤b)
def ZaQ(xs:List Int):Int:=if xs.all (fun x=>Zan x 0 255)=true then 0 else 2
theorem Znt{xs:List Int}{k:Nat}(h:k<xs.length):xs.drop k=xs.getD k 0::xs.drop (k+1):=by
 rw[List.drop_eq_getElem_cons h,List.getD_eq_getElem?_getD,List.getElem?_eq_getElem h];rfl
section
variable {C:Ctx}(hC:C.P=Tryz.prog)
include hC
theorem Zjr(xs ys:List Int)(hl:xs.length≤1000000∧xs.length=ys.length):∀m k:Nat,k+m=xs.length→Ev C (ZfY xs ys k) (Zef xs ys k) (ZdC 28 (.bool (decide (xs.drop k=ys.drop k))) none)
 |0,k,hk=>tgo hC ZaR Zhi (by
  rw[List.drop_of_length_le (by omega),List.drop_of_length_le (by omega)]
  simp[ZcX,show ¬(k:Int)<xs.length by omega])
 |m+1,k,hk=>by
  have ih:=Zjr xs ys hl m (k+1) (by omega)
  rw[Znt (show k<xs.length by omega),Znt (show k<ys.length by omega)]
  refine tgo hC ZaR Zhi ?_
  by_cases h:xs.getD k 0=ys.getD k 0
  ·simp[-List.getD_eq_getElem?_getD,ZcX,show(k:Int)<xs.length by omega,show k<xs.length by omega,show k<ys.length by omega,h]
   exact⟨by omega,by simpa using ih⟩
  ·simp[-List.getD_eq_getElem?_getD,ZcX,show(k:Int)<xs.length by omega,show k<xs.length by omega,show k<ys.length by omega,h]
theorem Ze6(xs:List Int)(hl:xs.length≤1000000):∀m k:Nat,k+m=xs.length→Ev C (Zf6 xs xs.length k) (Zem xs xs.length k) (ZdC 35 (.int .i64 (ZaQ (xs.drop k))) none)
 |0,k,hk=>tgo hC ZaR Zhf (by
  rw[List.drop_of_length_le (by omega)]
  simp[Zb3,show ¬(k:Int)<xs.length by omega,ZaQ])
 |m+1,k,hk=>by
  have ih:=Ze6 xs hl m (k+1) (by omega)
  have e:ZaQ (xs.drop k)=if Zan (xs.getD k 0) 0 255=true then ZaQ (xs.drop (k+1))else 2:=by
   rw[Znt (show k<xs.length by omega)]
   unfold ZaQ
   cases hw:Zan (xs.getD k 0) 0 255<;>simp[-List.getD_eq_getElem?_getD,List.all_cons,hw]
  rw[e]
  refine tgo hC ZaR Zhf ?_
  have hlt:(k:Int)<xs.length:=by omega
  have hlt2:k<xs.length:=by omega
  by_cases h1:0≤xs.getD k 0
  ·by_cases h2:xs.getD k 0≤255
   ·simp[-List.getD_eq_getElem?_getD,Zb3,hlt,hlt2,h1,h2,Zan]
    exact⟨by omega,by simpa using ih⟩
   ·simp[-List.getD_eq_getElem?_getD,Zb3,hlt,hlt2,h1,h2,Zan]
  ·simp[-List.getD_eq_getElem?_getD,Zb3,hlt,hlt2,h1,Zan]
theorem ZeW(xs:List Int)(hl:xs.length≤1000000):∀m k:Nat,k+m=xs.length→Ev C (ZfA xs k) (ZeA xs k) (ZdC 38 (.int .i64 (ZaQ (xs.drop k))) none)
 |0,k,hk=>tgo hC ZaR ZgT (by
  rw[List.drop_of_length_le (by omega)]
  simp[ZbS,show ¬(k:Int)<xs.length by omega,ZaQ])
 |m+1,k,hk=>by
  have ih:=ZeW xs hl m (k+1) (by omega)
  have e:ZaQ (xs.drop k)=if Zan (xs.getD k 0) 0 255=true then ZaQ (xs.drop (k+1))else 2:=by
   rw[Znt (show k<xs.length by omega)]
   unfold ZaQ
   cases hw:Zan (xs.getD k 0) 0 255<;>simp[-List.getD_eq_getElem?_getD,List.all_cons,hw]
  rw[e]
  refine tgo hC ZaR ZgT ?_
  have hlt:(k:Int)<xs.length:=by omega
  have hlt2:k<xs.length:=by omega
  by_cases h1:0≤xs.getD k 0
  ·by_cases h2:xs.getD k 0≤255
   ·simp[-List.getD_eq_getElem?_getD,ZbS,hlt,hlt2,h1,h2,Zan]
    exact⟨by omega,by simpa using ih⟩
   ·simp[-List.getD_eq_getElem?_getD,ZbS,hlt,hlt2,h1,h2,Zan]
  ·simp[-List.getD_eq_getElem?_getD,ZbS,hlt,hlt2,h1,Zan]
theorem Ze1(xs:List Int)(hl:xs.length≤1000000):∀m k:Nat,k+m=xs.length→Ev C (Zgj xs xs.length k) (Zd3 xs xs.length k) (ZdC 33 (.int .i64 (ZbL (xs.drop k))) none)
 |0,k,hk=>tgo hC ZaR Zg0 (by
  rw[List.drop_of_length_le (by omega)]
  simp[Zc0,show ¬(k:Int)<xs.length by omega,ZbL])
 |m+1,k,hk=>by
  have ih:=Ze1 xs hl m (k+1) (by omega)
  have hlt:(k:Int)<xs.length:=by omega
  have hlt2:k<xs.length:=by omega
  rw[Znt hlt2,ZbL]
  refine tgo hC ZaR Zg0 ?_
  by_cases h:xs.getD k 0=0
  ·simp[-List.getD_eq_getElem?_getD,Zc0,hlt,hlt2,h]
   exact⟨by omega,by simpa using ih⟩
  ·simp[-List.getD_eq_getElem?_getD,Zc0,hlt,hlt2,h]
end
theorem Znj(xs ys:List Int)(hl:xs.length≤1000000):Zae Tryz.prog 28 [.list (.ints .i64 xs), .list (.ints .i64 ys)] (.bool (decide (xs=ys))) none:=
 start (ZsQ xs ys) fun C hC=>tgo hC ZaR Zy0 (by
  by_cases h:xs.length=ys.length
  ·simp[Zuf,h]
   have:=Zjr hC xs ys ⟨hl,h⟩ xs.length 0 (by omega)
   simpa using this
  ·have:xs≠ys:=fun e=>h (by rw[e])
   simp[Zuf,this,show ¬((xs.length:Int)=ys.length) by omega])
theorem Zos(xs:List Int)(hl:xs.length≤1000000):Zae Tryz.prog 31 [.list (.ints .i64 xs)] (.row 0 0) (some ⟨3,1, .ints .i64 xs⟩):=
 start (Zr6 xs) fun C hC=>tgo hC ZaR ZAa (by simp[ZxE];omega)
theorem ZmD(xs:List Int)(hl:xs.length≤1000000):Zae Tryz.prog 35 [.list (.ints .i64 xs)] (.int .i64 (ZaQ xs)) none:=
 start (Zsv xs) fun C hC=>tgo hC ZaR ZAk (by
  have:=Ze6 hC xs hl xs.length 0 (by omega)
  simp[Zvu]
  simpa using this)
theorem Zl2(xs:List Int)(hl:xs.length≤1000000):Zae Tryz.prog 38 [.list (.ints .i64 xs)] (.int .i64 (ZaQ xs)) none:=
 start (ZtF xs) fun C hC=>tgo hC ZaR Zz1 (by
  have:=ZeW hC xs hl xs.length 0 (by omega)
  simp[ZwT]
  simpa using this)
theorem ZjY(a b c:Int):Zae Tryz.prog 40 [.int .i64 a, .int .i64 b, .int .i64 c] (.bool (Zan a b c)) none:=
 start (Zt2 a b c) fun C hC=>tgo hC ZaR ZyM (by
  by_cases h:b≤a<;>simp[Zw0,h,Zan])
theorem ZjS(b:Bool)(e:Int):Zae Tryz.prog 34 [.bool b, .int .i64 e] (.int .i64 (ZaK b e)) none:=
 start (Zte b e) fun C hC=>tgo hC ZaR ZyI (by cases b<;>simp[ZwL,ZaK])
theorem Zl1(xs:List Int)(hl:xs.length≤1000000):Zae Tryz.prog 33 [.list (.ints .i64 xs)] (.int .i64 (ZbL xs)) none:=
 start (Ztv xs) fun C hC=>tgo hC ZaR ZAy (by
  have:=Ze1 hC xs hl xs.length 0 (by omega)
  simp[ZuU]
  simpa using this)
def k28:Ctr:=⟨28,0,fun _ a=>match a with |[.list (.ints .i64 xs), .list (.ints .i64 ys)]=>some (decide (xs.length≤1000000), .bool (decide (xs=ys)),none) |_=>none⟩
theorem ZwA:k28.OK Tryz.prog:=fun pa args r fr h=>by
 simp only[k28]at h
 split at h
 ·simp only[Option.some.injEq,Prod.mk.injEq,decide_eq_true_eq]at h
  obtain⟨h0,rfl,rfl⟩:=h
  exact Znj _ _ h0
 ·cases h
def k31:Ctr:=⟨31,0,fun _ a=>match a with |[.list (.ints .i64 xs)]=>some (decide (xs.length≤1000000), .row 0 0,some ⟨3,1, .ints .i64 xs⟩) |_=>none⟩
theorem Zxn:k31.OK Tryz.prog:=fun pa args r fr h=>by
 simp only[k31]at h
 split at h
 ·simp only[Option.some.injEq,Prod.mk.injEq,decide_eq_true_eq]at h
  obtain⟨h0,rfl,rfl⟩:=h
  exact Zos _ h0
 ·cases h
def k35:Ctr:=⟨35,0,fun _ a=>match a with |[.list (.ints .i64 xs)]=>some (decide (xs.length≤1000000), .int .i64 (ZaQ xs),none) |_=>none⟩
theorem ZvD:k35.OK Tryz.prog:=fun pa args r fr h=>by
 simp only[k35]at h
 split at h
 ·simp only[Option.some.injEq,Prod.mk.injEq,decide_eq_true_eq]at h
  obtain⟨h0,rfl,rfl⟩:=h
  exact ZmD _ h0
 ·cases h
def k38:Ctr:=⟨38,0,fun _ a=>match a with |[.list (.ints .i64 xs)]=>some (decide (xs.length≤1000000), .int .i64 (ZaQ xs),none) |_=>none⟩
theorem ZuQ:k38.OK Tryz.prog:=fun pa args r fr h=>by
 simp only[k38]at h
 split at h
 ·simp only[Option.some.injEq,Prod.mk.injEq,decide_eq_true_eq]at h
  obtain⟨h0,rfl,rfl⟩:=h
  exact Zl2 _ h0
 ·cases h
def k40:Ctr:=⟨40,0,fun _ a=>match a with |[.int .i64 a, .int .i64 b, .int .i64 c]=>some (true, .bool (Zan a b c),none) |_=>none⟩
theorem Zw8:k40.OK Tryz.prog:=fun pa args r fr h=>by
 simp only[k40]at h
 split at h
 ·cases h
  exact ZjY _ _ _
 ·cases h
def k34:Ctr:=⟨34,0,fun _ a=>match a with |[.bool b, .int .i64 e]=>some (true, .int .i64 (ZaK b e),none) |_=>none⟩
theorem Zx8:k34.OK Tryz.prog:=fun pa args r fr h=>by
 simp only[k34]at h
 split at h
 ·cases h
  exact ZjS _ _
 ·cases h
def k33:Ctr:=⟨33,0,fun _ a=>match a with |[.list (.ints .i64 xs)]=>some (decide (xs.length≤1000000), .int .i64 (ZbL xs),none) |_=>none⟩
theorem Zwd:k33.OK Tryz.prog:=fun pa args r fr h=>by
 simp only[k33]at h
 split at h
 ·simp only[Option.some.injEq,Prod.mk.injEq,decide_eq_true_eq]at h
  obtain⟨h0,rfl,rfl⟩:=h
  exact Zl1 _ h0
 ·cases h
def N4:List Ctr:=[k28,k31,k35,k38,k40,k34,k33]++N3
theorem ZyT:ZaL Tryz.prog N4:=⟨ZwA,⟨Zxn,⟨ZvD,⟨ZuQ,⟨Zw8,⟨Zx8,⟨Zwd,Zzw⟩⟩⟩⟩⟩⟩⟩
end Go.Proofs.YthfcimmcccocmaaGreatDoor
