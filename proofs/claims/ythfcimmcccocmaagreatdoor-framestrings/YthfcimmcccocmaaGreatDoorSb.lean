/- Contracts as a list. No condition. -/
import Derived.Test.YthfcimmcccocmaaGreatDoorSp
import Derived.Lib.Join
import Derived.Lib.ItoaLen
namespace Go.Proofs.YthfcimmcccocmaaGreatDoor
@[simp] theorem ZBI (l:List AV):std.lenA l=l.length:=rfl
@[simp] theorem ZBB (l:List AV) (j:Nat):std.nthA l j=l.getD j .top:=rfl
theorem Zfr(p:List UInt8)(B:Nat):∀r:List (List UInt8),(∀x∈r,x.length≤B)→(Lib.joinTail p r).length≤r.length*(B+p.length)
 |[],_=>by simp[Lib.joinTail]
 |x::r,h=>by
  have ih:=Zfr p B r fun y hy=>h y (List.mem_cons_of_mem _ hy)
  have hx:=h x List.mem_cons_self
  simp only[Lib.joinTail,List.map_cons,List.flatten_cons,List.length_append,List.length_cons]at ih⊢
  rw[Nat.add_mul];omega
theorem Zss(p:List UInt8)(B:Nat)(xs:List (List UInt8))(h:∀x∈xs,x.length≤B):(Lib.join xs p).length≤xs.length*(B+p.length):=by
 cases xs with
 |nil=>simp[Lib.join_nil]
 |cons x r=>
  have ih:=Zfr p B r fun y hy=>h y (List.mem_cons_of_mem _ hy)
  have hx:=h x List.mem_cons_self
  rw[Lib.join_cons,List.length_append,List.length_cons,Nat.add_mul];omega
def Zar(xs:List Int):List UInt8:=Lib.join (xs.map Lib.itoa) [32]
theorem ZfI{α:Type}{xs:List α}{k:Nat}{d:α}(h:k<xs.length):xs.take (k+1)=xs.take k++[xs.getD k d]:=by
 rw[List.take_add_one,List.getElem?_eq_getElem h,List.getD_eq_getElem?_getD,List.getElem?_eq_getElem h];rfl
theorem Zd0{α:Type}{xs:List α}{n:Nat}{d:α}(h:n<xs.length):xs.getD n d∈xs:=by
 rw[List.getD_eq_getElem?_getD,List.getElem?_eq_getElem h];exact List.getElem_mem h
def ZmW(s:List UInt8)(c:Int):Nat→Nat→Nat→List AV
 |0,_,f=>[.str (s.drop f)]
 |m+1,i,f=>if((s.getD i 0).toNat:Int)=c then .str ((s.drop f).take (i-f))::ZmW s c m (i+1) (i+1)else ZmW s c m (i+1) f
section
variable {C:Ctx}(hC:C.P=Tryz.prog)(s:List UInt8)(c:Int)(hl:s.length≤1000000)
include hC hl
theorem Zti:∀(m i f:Nat) (L:List AV),i+m=s.length→f≤i→L.length≤i→Ev C (Zgs s c f i L) (Zev s c f i L) (ZdY 69 (.row 0 0) (some ⟨9,1, .big .str (L++ZmW s c m i f)⟩))
 |0,i,f,L,hi,hf,hL=>tgo hC ZaP ZhL (by
  obtain rfl:i=s.length:=by omega
  have e:(s.drop f).take (s.length-f)=s.drop f:=List.take_of_length_le (by simp)
  simp[-List.getD_eq_getElem?_getD,Zc8,sub3,ZmW,AV.bx,Zag,e]
  omega)
 |m+1,i,f,L,hi,hf,hL=>by
  have hlt:(i:Int)<s.length:=by omega
  have hlt2:i<s.length:=by omega
  refine tgo hC ZaP ZhL ?_
  rw[ZmW]
  by_cases hc:((s.getD i 0).toNat:Int)=c
  ·have ih:=Zti m (i+1) (i+1) (L++[.str ((s.drop f).take (i-f))]) (by omega) (by omega) (by simp;omega)
   rw[if_pos hc]
   simp[-List.getD_eq_getElem?_getD,Zc8,sub3,hlt,hlt2,hc,AV.bx,Zag]
   exact⟨by omega,by simpa using ih⟩
  ·have ih:=Zti m (i+1) f L (by omega) (by omega) (by omega)
   rw[if_neg hc]
   simp[-List.getD_eq_getElem?_getD,Zc8,sub3,hlt,hlt2,hc]
   exact⟨by omega,by simpa using ih⟩
theorem ZuW:∀(m i:Nat),i+m=s.length→Ev C (ZfQ s c i) (Zes s c i) (ZdY 69 (.row 0 0) (some ⟨9,1, .big .str (ZmW s c m i 0)⟩))
 |0,i,hi=>tgo hC ZaP ZgV (by
  obtain rfl:i=s.length:=by omega
  simp[-List.getD_eq_getElem?_getD,Zc3,sub3,ZmW,AV.bx,Zag])
 |m+1,i,hi=>by
  have hlt:(i:Int)<s.length:=by omega
  have hlt2:i<s.length:=by omega
  refine tgo hC ZaP ZgV ?_
  rw[ZmW]
  by_cases hc:((s.getD i 0).toNat:Int)=c
  ·have ih:=Zti hC s c hl m (i+1) (i+1) [.str ((s.drop 0).take (i-0))] (by omega) (by omega) (by simp)
   rw[if_pos hc]
   simp[-List.getD_eq_getElem?_getD,Zc3,sub3,hlt,hlt2,hc,AV.bx,Zag]
   exact⟨by omega,by simpa using ih⟩
  ·have ih:=ZuW m (i+1) (by omega)
   rw[if_neg hc]
   simp[-List.getD_eq_getElem?_getD,Zc3,sub3,hlt,hlt2,hc]
   exact⟨by omega,by simpa using ih⟩
end
def Zm0(s:List UInt8)(c:Int):List AV:=ZmW s c s.length 0 0
theorem ZqF(s:List UInt8)(c:Int)(hl:s.length≤1000000):Zae Tryz.prog 69 [.str s, .int .u8 c] (.row 0 0) (some ⟨9,1, .big .str (Zm0 s c)⟩):=
 start (ZtM s c) fun _ hC=>tgo hC ZaP ZAl (by
  have:=ZuW hC s c hl s.length 0 (by omega)
  simp only[ZuO]
  simpa[Zm0]using this)
def ZoL(s:List UInt8):Nat→Nat→Int→Option Int
 |0,_,n=>some n
 |m+1,i,n=>if((s.getD i 0).toNat:Int)<48∨57<((s.getD i 0).toNat:Int)then none else ZoL s m (i+1) (10*n+(((s.getD i 0).toNat:Int)-48))
def Zcq(s:List UInt8):Nat:=if 0<s.length∧(s.getD 0 0).toNat=45 then 1 else 0
def ZjU(s:List UInt8)(d:Int):Bool:=decide (s.length≠Zcq s∧(s.length:Int)-Zcq s≤d∧¬((s.getD (Zcq s) 0).toNat=48∧1<s.length))
def Zd1(s:List UInt8)(d:Int):Option Int:=if ZjU s d=true then(ZoL s (s.length-Zcq s) (Zcq s) 0).map fun n=>if Zcq s=1 then -n else n else none
def ZmV(o:Option Int):AV:=.tup [.int .i64 (o.getD 0), .bool o.isSome]
theorem Zrg(k:Nat)(n x:Int)(h:0≤n∧n<10^k)(hx:0≤x∧x≤9):0≤10*n+x∧10*n+x<10^(k+1):=by
 have:(10:Int)^(k+1)=10*10^k:=by rw[Int.pow_succ];omega
 omega
theorem ZwR{k:Nat}(h:k≤18):(10:Int)^k≤1000000000000000000:=by
 have:∀j,j≤18→(10:Int)^j≤1000000000000000000:=by decide
 exact this k h
section
variable {C:Ctx}(hC:C.P=Tryz.prog)(s:List UInt8)(a:Nat)(ha:a≤1)(hl:s.length≤18+a)
include hC ha hl
theorem ZhT:∀(m i:Nat) (n:Int),i+m=s.length→a≤i→(0≤n∧n<10^(i-a))→Ev C (Zf2 s a i n) (Zec s a i n) (ZdY 70 (ZmV ((ZoL s m i n).map fun n=>if a=1 then -n else n)) none)
 |0,i,n,hi,hai,hn=>tgo hC ZaP Zhp (by
  have hp:=ZwR (k:=i-a) (by omega)
  by_cases h1:a=1
  ·subst h1
   simp[Zbw,show ¬(i:Int)<s.length by omega,ZoL,ZmV]
   omega
  ·have h0:a=0:=by omega
   subst h0
   simp[Zbw,show ¬(i:Int)<s.length by omega,ZoL,ZmV])
 |m+1,i,n,hi,hai,hn=>by
  have hlt:(i:Int)<s.length:=by omega
  have hlt2:i<s.length:=by omega
  refine tgo hC ZaP Zhp ?_
  rw[ZoL]
  have hu:(s.getD i 0).toNat<256:=(s.getD i 0).toNat_lt
  by_cases h1:((s.getD i 0).toNat:Int)<48
  ·rw[if_pos (.inl h1)]
   simp[-List.getD_eq_getElem?_getD,Zbw,hlt,hlt2,h1,ZmV]
  ·by_cases h2:57<((s.getD i 0).toNat:Int)
   ·rw[if_pos (.inr h2)]
    simp[-List.getD_eq_getElem?_getD,Zbw,hlt,hlt2,h1,h2,ZmV]
   ·rw[if_neg (by omega)]
    have hs:=Zrg (i-a) n (((s.getD i 0).toNat:Int)-48) hn (by omega)
    have hp:=ZwR (k:=i-a+1) (by omega)
    have ih:=ZhT m (i+1) (10*n+(((s.getD i 0).toNat:Int)-48)) (by omega) (by omega) (by rw[show i+1-a=i-a+1 by omega];exact hs)
    have hu8:std.inR .u8 (((s.getD i 0).toNat:Int)-48)=true:=decide_eq_true ⟨by show(0:Int)≤_;omega,by show _≤(255:Int);omega⟩
    simp[-List.getD_eq_getElem?_getD,Zbw,hlt,hlt2,h1,h2,hu8]
    exact⟨by omega,by simpa[-List.getD_eq_getElem?_getD]using ih⟩
end
theorem ZkB(s:List UInt8)(d:Int)(h:d≤18∧s.length≤1000000):Zae Tryz.prog 70 [.str s, .int .i64 d] (ZmV (Zd1 s d)) none:=
 start (Ztu s d) fun C hC=>tgo hC ZaP ZAm (by
  unfold Zu7
  by_cases h0:s.length=0
  ·have ho:Zd1 s d=none:=by unfold Zd1;rw[if_neg (by simp[ZjU,Zcq,h0])]
   rw[ho]
   simp[h0,ZmV]
  ·have hp:(0:Int)<s.length:=by omega
   have hp2:0<s.length:=by omega
   by_cases h45:(s.getD 0 0).toNat=45
   ·have hat:Zcq s=1:=by unfold Zcq;rw[if_pos ⟨hp2,h45⟩]
    by_cases h1:s.length=1
    ·have ho:Zd1 s d=none:=by unfold Zd1;rw[if_neg (by simp[ZjU,hat,h1])]
     rw[ho]
     simp[-List.getD_eq_getElem?_getD,hp,hp2,h45,h1,ZmV]
    ·have h1i:¬(s.length:Int)=1:=by omega
     have h1l:(1:Int)<s.length:=by omega
     have h1n:1<s.length:=by omega
     by_cases h2:d<(s.length:Int)-1
     ·have ho:Zd1 s d=none:=by unfold Zd1;rw[if_neg (by simp[ZjU,hat];omega)]
      rw[ho]
      simp[-List.getD_eq_getElem?_getD,hp,hp2,h45,h1,h1i,h2,ZmV]
      omega
     ·by_cases h3:(s.getD 1 0).toNat=48
      ·have ho:Zd1 s d=none:=by unfold Zd1;rw[if_neg (by simp[-List.getD_eq_getElem?_getD,ZjU,hat,h3,h1n])]
       rw[ho]
       simp[-List.getD_eq_getElem?_getD,hp,hp2,h45,h1,h1i,h1l,h1n,h2,h3,ZmV]
       omega
      ·have h3i:¬((s.getD 1 0).toNat:Int)=48:=by omega
       have ho:Zd1 s d=(ZoL s (s.length-1) 1 0).map fun n=>if(1:Nat)=1 then -n else n:=by
        unfold Zd1;rw[if_pos (by simp[-List.getD_eq_getElem?_getD,ZjU,hat,h3];omega),hat]
       have ih:=ZhT hC s 1 (by omega) (by omega) (s.length-1) 1 0 (by omega) (by omega) (by decide)
       rw[ho]
       simp[-List.getD_eq_getElem?_getD,hp,hp2,h45,h1,h1i,h1l,h1n,h2,h3i]
       exact⟨by omega,by simpa[-List.getD_eq_getElem?_getD]using ih⟩
   ·have hat:Zcq s=0:=by unfold Zcq;rw[if_neg (fun hh=>h45 hh.2)]
    have h45i:¬((s.getD 0 0).toNat:Int)=45:=by omega
    have h0i:¬(s.length:Int)=0:=by omega
    by_cases h2:d<(s.length:Int)
    ·have ho:Zd1 s d=none:=by unfold Zd1;rw[if_neg (by simp[ZjU,hat];omega)]
     rw[ho]
     simp[-List.getD_eq_getElem?_getD,hp,hp2,h45i,h0,h0i,h2,ZmV]
     omega
    ·have loop:(ZjU s d=true)→Zd1 s d=(ZoL s s.length 0 0).map fun n=>if(0:Nat)=1 then -n else n:=fun hg=>by
      unfold Zd1;rw[if_pos hg,hat];rfl
     have ih:=ZhT hC s 0 (by omega) (by omega) s.length 0 0 (by omega) (by omega) (by decide)
     by_cases h3:(s.getD 0 0).toNat=48
     ·by_cases h4:1<s.length
      ·have ho:Zd1 s d=none:=by unfold Zd1;rw[if_neg (by simp[-List.getD_eq_getElem?_getD,ZjU,hat,h3,h4])]
       rw[ho]
       simp[-List.getD_eq_getElem?_getD,hp,hp2,h45i,h0,h0i,h2,h3,h4,show(1:Int)<s.length by omega,ZmV]
       omega
      ·rw[loop (by simp[-List.getD_eq_getElem?_getD,ZjU,hat,h3,h4,h0];omega)]
       simp[-List.getD_eq_getElem?_getD,hp,hp2,h45i,h0,h0i,h2,h3,h4,show ¬(1:Int)<s.length by omega]
       exact⟨by omega,by simpa[-List.getD_eq_getElem?_getD]using ih⟩
     ·have h3i:¬((s.getD 0 0).toNat:Int)=48:=by omega
      rw[loop (by simp[-List.getD_eq_getElem?_getD,ZjU,hat,h3,h0];omega)]
      simp[-List.getD_eq_getElem?_getD,hp,hp2,h45i,h0,h0i,h2,h3i]
      exact⟨by omega,by simpa[-List.getD_eq_getElem?_getD]using ih⟩)
def Zbc(s:List UInt8)(d:Int):Int:=(Zd1 s d).getD 0
def ZgO(s:List UInt8)(d:Int):Bool:=(Zd1 s d).isSome
theorem ZlO(s:List UInt8)(d:Int)(h:d≤18∧s.length≤1000000):Zae Tryz.prog 70 [.str s, .int .i64 d] (.tup [.int .i64 (Zbc s d), .bool (ZgO s d)]) none:=ZkB s d h
attribute [irreducible] Zm0 Zbc ZgO Zar
def k69:Ctr:=⟨69,0,fun _ a=>match a with |[.str s, .int .u8 c]=>some (decide (s.length≤1000000), .row 0 0,some ⟨9,1, .big .str (Zm0 s c)⟩) |_=>none⟩
theorem ZxE:k69.OK Tryz.prog:=fun pa args r fr h=>by
 simp only[k69]at h
 split at h
 ·simp only[Option.some.injEq,Prod.mk.injEq,decide_eq_true_eq]at h
  obtain⟨h0,rfl,rfl⟩:=h
  exact ZqF _ _ h0
 ·cases h
def k70:Ctr:=⟨70,0,fun _ a=>match a with |[.str s, .int .i64 d]=>some (decide (d≤18∧s.length≤1000000), .tup [.int .i64 (Zbc s d), .bool (ZgO s d)],none) |_=>none⟩
theorem ZxB:k70.OK Tryz.prog:=fun pa args r fr h=>by
 simp only[k70]at h
 split at h
 ·simp only[Option.some.injEq,Prod.mk.injEq,decide_eq_true_eq]at h
  obtain⟨h0,rfl,rfl⟩:=h
  exact ZlO _ _ h0
 ·cases h
def N2:List Ctr:=[k69,k70]++N1
theorem Zzj:ZaK Tryz.prog N2:=⟨ZxE,⟨ZxB,ZaP⟩⟩
end Go.Proofs.YthfcimmcccocmaaGreatDoor
/- Contracts as a list. No condition. -/
namespace Go.Proofs.YthfcimmcccocmaaGreatDoor
theorem Zws(n:Int):(Int.tdiv n 10).natAbs=n.natAbs/10:=by
 rw[Int.natAbs_tdiv];rfl
theorem ZuT(n:Int):max (Int.tmod n 10) (-(Int.tmod n 10))=((n.natAbs%10:Nat):Int):=by
 have h1:(Int.tmod n 10).natAbs=n.natAbs%10:=by rw[Int.natAbs_tmod];rfl
 omega
def ZoJ(u:Nat):List UInt8:=if u=0 then []else Lib.decDigits u
theorem Znn(u:Nat)(h:u≠0):ZoJ u=ZoJ (u/10)++[UInt8.ofNat (48+u%10)]:=by
 unfold ZoJ
 rw[if_neg h,Lib.decDigits]
 by_cases h1:u<10
 ·rw[dif_pos h1,if_pos (by omega),show u%10=u by omega];rfl
 ·rw[dif_neg h1,if_neg (by omega)]
section
variable {C:Ctx}(hC:C.P=Tryz.prog)(l0:List UInt8)(h0:l0.length≤1)
include hC h0
theorem Zih:∀(k:Nat) (n:Int) (l2:List UInt8),n.natAbs<10^k→l2.length+k≤40→(-9223372036854775808≤n∧n≤9223372036854775807)→Ev C (Zgl l0 n l2) (ZeF l0 n l2) (ZdY 71 (.str (l0++(ZoJ n.natAbs++l2))) none)
 |0,n,l2,hk,hl,hn=>tgo hC ZaP ZgT (by
  obtain rfl:n=0:=by
   simp at hk;exact hk
  simp[ZcZ,ZoJ]
  omega)
 |k+1,n,l2,hk,hl,hn=>by
  refine tgo hC ZaP ZgT ?_
  by_cases hz:n=0
  ·subst hz
   simp[ZcZ,ZoJ]
   omega
  ·have e1:=Zws n
   have e2:=ZuT n
   have hq:(Int.tdiv n 10).natAbs<10^k:=by
    rw[e1]
    have:(10:Nat)^(k+1)=10^k*10:=Nat.pow_succ ..
    omega
   have ih:=Zih k (Int.tdiv n 10) ([UInt8.ofNat (48+n.natAbs%10)]++l2) hq (by simp;omega) (by omega)
   rw[e1]at ih
   rw[Znn n.natAbs (by omega)]
   have hm:n.natAbs%10<10:=Nat.mod_lt _ (by decide)
   have e3:(48+max (Int.tmod n 10) (-(Int.tmod n 10))).toNat=48+n.natAbs%10:=by rw[e2];omega
   have hu8:std.inR .u8 (48+max (Int.tmod n 10) (-(Int.tmod n 10)))=true:=decide_eq_true ⟨by show(0:Int)≤_;omega,by show _≤(255:Int);omega⟩
   simp[ZcZ,hz,hu8,e3,AV.bx,Zag]
   refine⟨by omega,?_⟩
   simpa using ih
end
theorem ZiJ(n:Int)(h:Zdf n=true):Zae Tryz.prog 71 [.int .i64 n] (.str (Lib.itoa n)) none:=
 start (Zs3 n) fun C hC=>tgo hC ZaP ZAI (by
  have hn:=i64B_iff.1 h
  unfold Zu2
  have hb:n.natAbs<10^20:=by
   have:(10:Nat)^20=100000000000000000000:=by decide
   omega
  by_cases hz:n=0
  ·subst hz
   have:Lib.itoa 0=[48]:=by unfold Lib.itoa;rw[if_neg (by decide),Lib.decDigits];rfl
   simp[this]
  ·by_cases hneg:n<0
   ·have ih:=Zih hC [45] (by simp) 20 n [] hb (by simp) hn
    have e:Lib.itoa n=[45]++(ZoJ n.natAbs++[]):=by
     unfold Lib.itoa ZoJ
     rw[if_pos hneg,if_neg (by omega)];simp
    rw[e]
    simp[hz,hneg]
    simpa using ih
   ·have ih:=Zih hC [] (by simp) 20 n [] hb (by simp) hn
    have e:Lib.itoa n=[]++(ZoJ n.natAbs++[]):=by
     unfold Lib.itoa ZoJ
     rw[if_neg hneg,if_neg (by omega)]
     simp
     congr 1
     omega
    rw[e]
    simp[hz,hneg]
    simpa using ih)
def k71:Ctr:=⟨71,0,fun _ a=>match a with |[.int .i64 n]=>some (decide (Zdf n=true), .str (Lib.itoa n),none) |_=>none⟩
theorem Zu9:k71.OK Tryz.prog:=fun pa args r fr h=>by
 simp only[k71]at h
 split at h
 ·simp only[Option.some.injEq,Prod.mk.injEq,decide_eq_true_eq]at h
  obtain⟨h0,rfl,rfl⟩:=h
  exact ZiJ _ h0
 ·cases h
def N3:List Ctr:=[k71]++N2
theorem Zy2:ZaK Tryz.prog N3:=⟨Zu9,Zzj⟩
end Go.Proofs.YthfcimmcccocmaaGreatDoor
/- Contracts as a list. No condition. -/
namespace Go.Proofs.YthfcimmcccocmaaGreatDoor
def ZbJ:List Int→Int
 |[]=>0
 |x::xs=>if x=0 then ZbJ xs else x
def ZaL(b:Bool)(e:Int):Int:=if b=true then 0 else e
def Zan(n a b:Int):Bool:=decide (a≤n∧n≤b)
def ZaQ(xs:List Int):Int:=if xs.all (fun x=>Zan x 0 255)=true then 0 else 2
theorem Zm3{xs:List Int}{k:Nat}(h:k<xs.length):xs.drop k=xs.getD k 0::xs.drop (k+1):=by
 rw[List.drop_eq_getElem_cons h,List.getD_eq_getElem?_getD,List.getElem?_eq_getElem h];rfl
section
variable {C:Ctx}(hC:C.P=Tryz.prog)
include hC
theorem ZiN(xs ys:List Int)(hl:xs.length≤1000000∧xs.length=ys.length):∀m k:Nat,k+m=xs.length→Ev C (Zf1 xs ys k) (ZeE xs ys k) (ZdY 28 (.bool (decide (xs.drop k=ys.drop k))) none)
 |0,k,hk=>tgo hC ZaP Zhm (by
  rw[List.drop_of_length_le (by omega),List.drop_of_length_le (by omega)]
  simp[ZcX,show ¬(k:Int)<xs.length by omega])
 |m+1,k,hk=>by
  have ih:=ZiN xs ys hl m (k+1) (by omega)
  rw[Zm3 (show k<xs.length by omega),Zm3 (show k<ys.length by omega)]
  refine tgo hC ZaP Zhm ?_
  by_cases h:xs.getD k 0=ys.getD k 0
  ·simp[-List.getD_eq_getElem?_getD,ZcX,show(k:Int)<xs.length by omega,show k<xs.length by omega,show k<ys.length by omega,h]
   exact⟨by omega,by simpa using ih⟩
  ·simp[-List.getD_eq_getElem?_getD,ZcX,show(k:Int)<xs.length by omega,show k<xs.length by omega,show k<ys.length by omega,h]
theorem ZeX(xs:List Int)(hl:xs.length≤1000000):∀m k:Nat,k+m=xs.length→Ev C (ZfX xs xs.length k) (Zez xs xs.length k) (ZdY 35 (.int .i64 (ZaQ (xs.drop k))) none)
 |0,k,hk=>tgo hC ZaP Zg4 (by
  rw[List.drop_of_length_le (by omega)]
  simp[Zb0,show ¬(k:Int)<xs.length by omega,ZaQ])
 |m+1,k,hk=>by
  have ih:=ZeX xs hl m (k+1) (by omega)
  have e:ZaQ (xs.drop k)=if Zan (xs.getD k 0) 0 255=true then ZaQ (xs.drop (k+1))else 2:=by
   rw[Zm3 (show k<xs.length by omega)]
   unfold ZaQ
   cases hw:Zan (xs.getD k 0) 0 255<;>simp[-List.getD_eq_getElem?_getD,List.all_cons,hw]
  rw[e]
  refine tgo hC ZaP Zg4 ?_
  have hlt:(k:Int)<xs.length:=by omega
  have hlt2:k<xs.length:=by omega
  by_cases h1:0≤xs.getD k 0
  ·by_cases h2:xs.getD k 0≤255
   ·simp[-List.getD_eq_getElem?_getD,Zb0,hlt,hlt2,h1,h2,Zan]
    exact⟨by omega,by simpa using ih⟩
   ·simp[-List.getD_eq_getElem?_getD,Zb0,hlt,hlt2,h1,h2,Zan]
  ·simp[-List.getD_eq_getElem?_getD,Zb0,hlt,hlt2,h1,Zan]
theorem ZeY(xs:List Int)(hl:xs.length≤1000000):∀m k:Nat,k+m=xs.length→Ev C (ZgB xs k) (ZeC xs k) (ZdY 38 (.int .i64 (ZaQ (xs.drop k))) none)
 |0,k,hk=>tgo hC ZaP ZgS (by
  rw[List.drop_of_length_le (by omega)]
  simp[ZbV,show ¬(k:Int)<xs.length by omega,ZaQ])
 |m+1,k,hk=>by
  have ih:=ZeY xs hl m (k+1) (by omega)
  have e:ZaQ (xs.drop k)=if Zan (xs.getD k 0) 0 255=true then ZaQ (xs.drop (k+1))else 2:=by
   rw[Zm3 (show k<xs.length by omega)]
   unfold ZaQ
   cases hw:Zan (xs.getD k 0) 0 255<;>simp[-List.getD_eq_getElem?_getD,List.all_cons,hw]
  rw[e]
  refine tgo hC ZaP ZgS ?_
  have hlt:(k:Int)<xs.length:=by omega
  have hlt2:k<xs.length:=by omega
  by_cases h1:0≤xs.getD k 0
  ·by_cases h2:xs.getD k 0≤255
   ·simp[-List.getD_eq_getElem?_getD,ZbV,hlt,hlt2,h1,h2,Zan]
    exact⟨by omega,by simpa using ih⟩
   ·simp[-List.getD_eq_getElem?_getD,ZbV,hlt,hlt2,h1,h2,Zan]
  ·simp[-List.getD_eq_getElem?_getD,ZbV,hlt,hlt2,h1,Zan]
theorem Ze2(xs:List Int)(hl:xs.length≤1000000):∀m k:Nat,k+m=xs.length→Ev C (ZfG xs xs.length k) (Zei xs xs.length k) (ZdY 33 (.int .i64 (ZbJ (xs.drop k))) none)
 |0,k,hk=>tgo hC ZaP ZhA (by
  rw[List.drop_of_length_le (by omega)]
  simp[ZcV,show ¬(k:Int)<xs.length by omega,ZbJ])
 |m+1,k,hk=>by
  have ih:=Ze2 xs hl m (k+1) (by omega)
  have hlt:(k:Int)<xs.length:=by omega
  have hlt2:k<xs.length:=by omega
  rw[Zm3 hlt2,ZbJ]
  refine tgo hC ZaP ZhA ?_
  by_cases h:xs.getD k 0=0
  ·simp[-List.getD_eq_getElem?_getD,ZcV,hlt,hlt2,h]
   exact⟨by omega,by simpa using ih⟩
  ·simp[-List.getD_eq_getElem?_getD,ZcV,hlt,hlt2,h]
end
theorem ZnR(xs ys:List Int)(hl:xs.length≤1000000):Zae Tryz.prog 28 [.list (.ints .i64 xs), .list (.ints .i64 ys)] (.bool (decide (xs=ys))) none:=
 start (ZsR xs ys) fun C hC=>tgo hC ZaP Zzu (by
  by_cases h:xs.length=ys.length
  ·simp[Zsl,h]
   have:=ZiN hC xs ys ⟨hl,h⟩ xs.length 0 (by omega)
   simpa using this
  ·have:xs≠ys:=fun e=>h (by rw[e])
   simp[Zsl,this,show ¬((xs.length:Int)=ys.length) by omega])
theorem Zod(xs:List Int)(hl:xs.length≤1000000):Zae Tryz.prog 31 [.list (.ints .i64 xs)] (.row 0 0) (some ⟨3,1, .ints .i64 xs⟩):=
 start (Zsh xs) fun C hC=>tgo hC ZaP ZAG (by simp[ZvZ];omega)
theorem ZlR(xs:List Int)(hl:xs.length≤1000000):Zae Tryz.prog 35 [.list (.ints .i64 xs)] (.int .i64 (ZaQ xs)) none:=
 start (ZsH xs) fun C hC=>tgo hC ZaP ZAu (by
  have:=ZeX hC xs hl xs.length 0 (by omega)
  simp[ZwH]
  simpa using this)
theorem Zmv(xs:List Int)(hl:xs.length≤1000000):Zae Tryz.prog 38 [.list (.ints .i64 xs)] (.int .i64 (ZaQ xs)) none:=
 start (Zsv xs) fun C hC=>tgo hC ZaP ZyO (by
  have:=ZeY hC xs hl xs.length 0 (by omega)
  simp[Zyg]
  simpa using this)
theorem ZjA(a b c:Int):Zae Tryz.prog 40 [.int .i64 a, .int .i64 b, .int .i64 c] (.bool (Zan a b c)) none:=
 start (Zuc a b c) fun C hC=>tgo hC ZaP ZzF (by
  by_cases h:b≤a<;>simp[Zwh,h,Zan])
theorem Zkb(b:Bool)(e:Int):Zae Tryz.prog 34 [.bool b, .int .i64 e] (.int .i64 (ZaL b e)) none:=
 start (Ztc b e) fun C hC=>tgo hC ZaP ZzK (by cases b<;>simp[Zxz,ZaL])
theorem Zl8(xs:List Int)(hl:xs.length≤1000000):Zae Tryz.prog 33 [.list (.ints .i64 xs)] (.int .i64 (ZbJ xs)) none:=
 start (Zsj xs) fun C hC=>tgo hC ZaP Zzm (by
  have:=Ze2 hC xs hl xs.length 0 (by omega)
  simp[Zwy]
  simpa using this)
def k28:Ctr:=⟨28,0,fun _ a=>match a with |[.list (.ints .i64 xs), .list (.ints .i64 ys)]=>some (decide (xs.length≤1000000), .bool (decide (xs=ys)),none) |_=>none⟩
theorem Zwa:k28.OK Tryz.prog:=fun pa args r fr h=>by
 simp only[k28]at h
 split at h
 ·simp only[Option.some.injEq,Prod.mk.injEq,decide_eq_true_eq]at h
  obtain⟨h0,rfl,rfl⟩:=h
  exact ZnR _ _ h0
 ·cases h
def k31:Ctr:=⟨31,0,fun _ a=>match a with |[.list (.ints .i64 xs)]=>some (decide (xs.length≤1000000), .row 0 0,some ⟨3,1, .ints .i64 xs⟩) |_=>none⟩
theorem ZvE:k31.OK Tryz.prog:=fun pa args r fr h=>by
 simp only[k31]at h
 split at h
 ·simp only[Option.some.injEq,Prod.mk.injEq,decide_eq_true_eq]at h
  obtain⟨h0,rfl,rfl⟩:=h
  exact Zod _ h0
 ·cases h
def k35:Ctr:=⟨35,0,fun _ a=>match a with |[.list (.ints .i64 xs)]=>some (decide (xs.length≤1000000), .int .i64 (ZaQ xs),none) |_=>none⟩
theorem ZwK:k35.OK Tryz.prog:=fun pa args r fr h=>by
 simp only[k35]at h
 split at h
 ·simp only[Option.some.injEq,Prod.mk.injEq,decide_eq_true_eq]at h
  obtain⟨h0,rfl,rfl⟩:=h
  exact ZlR _ h0
 ·cases h
def k38:Ctr:=⟨38,0,fun _ a=>match a with |[.list (.ints .i64 xs)]=>some (decide (xs.length≤1000000), .int .i64 (ZaQ xs),none) |_=>none⟩
theorem Zwb:k38.OK Tryz.prog:=fun pa args r fr h=>by
 simp only[k38]at h
 split at h
 ·simp only[Option.some.injEq,Prod.mk.injEq,decide_eq_true_eq]at h
  obtain⟨h0,rfl,rfl⟩:=h
  exact Zmv _ h0
 ·cases h
def k40:Ctr:=⟨40,0,fun _ a=>match a with |[.int .i64 a, .int .i64 b, .int .i64 c]=>some (true, .bool (Zan a b c),none) |_=>none⟩
theorem ZxS:k40.OK Tryz.prog:=fun pa args r fr h=>by
 simp only[k40]at h
 split at h
 ·cases h
  exact ZjA _ _ _
 ·cases h
def k34:Ctr:=⟨34,0,fun _ a=>match a with |[.bool b, .int .i64 e]=>some (true, .int .i64 (ZaL b e),none) |_=>none⟩
theorem ZuS:k34.OK Tryz.prog:=fun pa args r fr h=>by
 simp only[k34]at h
 split at h
 ·cases h
  exact Zkb _ _
 ·cases h
def k33:Ctr:=⟨33,0,fun _ a=>match a with |[.list (.ints .i64 xs)]=>some (decide (xs.length≤1000000), .int .i64 (ZbJ xs),none) |_=>none⟩
theorem Zu4:k33.OK Tryz.prog:=fun pa args r fr h=>by
 simp only[k33]at h
 split at h
 ·simp only[Option.some.injEq,Prod.mk.injEq,decide_eq_true_eq]at h
  obtain⟨h0,rfl,rfl⟩:=h
  exact Zl8 _ h0
 ·cases h
def N4:List Ctr:=[k28,k31,k35,k38,k40,k34,k33]++N3
theorem ZAi:ZaK Tryz.prog N4:=⟨Zwa,⟨ZvE,⟨ZwK,⟨Zwb,⟨ZxS,⟨ZuS,⟨Zu4,Zy2⟩⟩⟩⟩⟩⟩⟩
end Go.Proofs.YthfcimmcccocmaaGreatDoor
