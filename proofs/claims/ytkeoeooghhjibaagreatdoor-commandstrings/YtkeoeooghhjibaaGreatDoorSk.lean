/- Contracts as a list. No condition. -/
import Derived.Test.YtkeoeooghhjibaaGreatDoorSp
import Derived.Lib.Join
import Derived.Lib.ItoaLen
import Derived.KernelRfl
namespace Go.Proofs.YtkeoeooghhjibaaGreatDoor
theorem Zfv(p:List UInt8)(B:Nat):∀r:List (List UInt8),(∀x∈r,x.length≤B)→(Lib.joinTail p r).length≤r.length*(B+p.length)
 |[],_=>by simp[Lib.joinTail]
 |x::r,h=>by
  have ih:=Zfv p B r fun y hy=>h y (List.mem_cons_of_mem _ hy)
  have hx:=h x List.mem_cons_self
  simp only[Lib.joinTail,List.map_cons,List.flatten_cons,List.length_append,List.length_cons]at ih⊢
  rw[Nat.add_mul];omega
theorem Zrc(p:List UInt8)(B:Nat)(xs:List (List UInt8))(h:∀x∈xs,x.length≤B):(Lib.join xs p).length≤xs.length*(B+p.length):=by
 cases xs with
 |nil=>simp[Lib.join_nil]
 |cons x r=>
  have ih:=Zfv p B r fun y hy=>h y (List.mem_cons_of_mem _ hy)
  have hx:=h x List.mem_cons_self
  rw[Lib.join_cons,List.length_append,List.length_cons,Nat.add_mul];omega
def ZaA(xs:List Int):List UInt8:=Lib.join (xs.map Lib.itoa) [32]
theorem ZiX{α:Type}{xs:List α}{k:Nat}{d:α}(h:k<xs.length):xs.take (k+1)=xs.take k++[xs.getD k d]:=by
 rw[List.take_add_one,List.getElem?_eq_getElem h,List.getD_eq_getElem?_getD,List.getElem?_eq_getElem h];rfl
theorem ZhD{α:Type}{xs:List α}{n:Nat}{d:α}(h:n<xs.length):xs.getD n d∈xs:=by
 rw[List.getD_eq_getElem?_getD,List.getElem?_eq_getElem h];exact List.getElem_mem h
def ZcQ(xs:List Int):Bool:=decide (xs.length≤8)&&xs.all Zbx
section
variable {C:Ctx}(hC:C.P=Tryz.prog)
include hC
theorem Zqd(xs:List Int)(hg:ZcQ xs=true):∀m k:Nat,k+m=xs.length→Ev C (ZdD xs xs.length k ((xs.take k).map fun n=>AV.str (Lib.itoa n))) (ZcD xs xs.length k ((xs.take k).map fun n=>AV.str (Lib.itoa n))) (Zew 105 (.str (ZaA xs)) none)
 |0,k,hk=>tgo hC Zbj Ze0 (by
  obtain rfl:k=xs.length:=by omega
  simp only[ZcQ,Bool.and_eq_true,decide_eq_true_eq,List.all_eq_true]at hg
  have hj:(Lib.join (xs.map Lib.itoa) [32]).length≤1000000:=by
   have:=Zrc [32] 21 (xs.map Lib.itoa) (fun x hx=>by
    obtain⟨n,hn,rfl⟩:=List.mem_map.1 hx
    have:=i64B_iff.1 (hg.2 n hn)
    exact Lib.itoa_length_le n this.1 this.2)
   rw[List.length_map]at this
   have h8:=hg.1
   have:(Lib.join (xs.map Lib.itoa) [32]).length≤8*22:=Nat.le_trans this (Nat.mul_le_mul_right _ h8)
   omega
  have e:List.map (AV.toS∘fun n=>AV.str (Lib.itoa n)) xs=xs.map Lib.itoa:=by simp[Function.comp_def,AV.toS]
  simp[ZcN,e,hj,ZaA]
  omega)
 |m+1,k,hk=>by
  have ih:=Zqd xs hg m (k+1) (by omega)
  have hlt:(k:Int)<xs.length:=by omega
  have hlt2:k<xs.length:=by omega
  rw[ZiX (d:=0) hlt2]at ih
  simp only[ZcQ,Bool.and_eq_true,decide_eq_true_eq,List.all_eq_true]at hg
  have hi:Zbx (xs.getD k 0)=true:=hg.2 _ (ZhD hlt2)
  refine tgo hC Zbj Ze0 ?_
  simp[-List.getD_eq_getElem?_getD,ZcN,hlt,hlt2,hi,AV.bx,Zal]
  exact⟨by omega,by simpa[-List.getD_eq_getElem?_getD]using ih⟩
theorem Zlr(xs:List Int)(hg:ZcQ xs=true):Ev C (Ztj xs) [] (Zew 105 (.str (ZaA xs)) none):=
 tgo hC Zbj Zt7 (by
  simp only[Zp2]
  refine tgo hC Zbj Zi2 ?_
  by_cases h0:xs.length=0
  ·have:xs=[]:=List.eq_nil_of_length_eq_zero h0
   subst this
   simp[Zcz,ZaA,Lib.join_nil]
  ·have hlt:0<xs.length:=by omega
   have ih:=Zqd hC xs hg (xs.length-1) 1 (by omega)
   rw[ZiX (d:=0) hlt]at ih
   simp only[ZcQ,Bool.and_eq_true,decide_eq_true_eq,List.all_eq_true]at hg
   have hi:Zbx (xs.getD 0 0)=true:=hg.2 _ (ZhD hlt)
   simp[-List.getD_eq_getElem?_getD,Zcz,hlt,hi,AV.bx,Zal]
   simpa[-List.getD_eq_getElem?_getD]using ih)
end
theorem Zjf(xs:List Int)(hg:ZcQ xs=true):Zan Tryz.prog 105 [.list (.ints .i64 xs)] (.str (ZaA xs)) none:=start (Zpn xs) fun _ hC=>Zlr hC xs hg
def Zj0(s:List UInt8)(c:Int):Nat→Nat→Nat→List AV
 |0,_,f=>[.str (s.drop f)]
 |m+1,i,f=>if((s.getD i 0).toNat:Int)=c then .str ((s.drop f).take (i-f))::Zj0 s c m (i+1) (i+1)else Zj0 s c m (i+1) f
section
variable {C:Ctx}(hC:C.P=Tryz.prog)(s:List UInt8)(c:Int)(hl:s.length≤1000000)
include hC hl
theorem ZsU:∀(m i f:Nat) (L:List AV),i+m=s.length→f≤i→L.length≤i→Ev C (Zdn s c f i L) (ZcV s c f i L) (Zew 109 (.row 0 0) (some ⟨9,1, .big .str (L++Zj0 s c m i f)⟩))
 |0,i,f,L,hi,hf,hL=>tgo hC Zbj Ze7 (by
  obtain rfl:i=s.length:=by omega
  have e:(s.drop f).take (s.length-f)=s.drop f:=List.take_of_length_le (by simp)
  simp[-List.getD_eq_getElem?_getD,ZbO,sub3,Zj0,AV.bx,Zal,e]
  omega)
 |m+1,i,f,L,hi,hf,hL=>by
  have hlt:(i:Int)<s.length:=by omega
  have hlt2:i<s.length:=by omega
  refine tgo hC Zbj Ze7 ?_
  rw[Zj0]
  by_cases hc:((s.getD i 0).toNat:Int)=c
  ·have ih:=ZsU m (i+1) (i+1) (L++[.str ((s.drop f).take (i-f))]) (by omega) (by omega) (by simp;omega)
   rw[if_pos hc]
   simp[-List.getD_eq_getElem?_getD,ZbO,sub3,hlt,hlt2,hc,AV.bx,Zal]
   exact⟨by omega,by simpa using ih⟩
  ·have ih:=ZsU m (i+1) f L (by omega) (by omega) (by omega)
   rw[if_neg hc]
   simp[-List.getD_eq_getElem?_getD,ZbO,sub3,hlt,hlt2,hc]
   exact⟨by omega,by simpa using ih⟩
theorem Zuj:∀(m i:Nat),i+m=s.length→Ev C (ZdB s c i) (ZcK s c i) (Zew 109 (.row 0 0) (some ⟨9,1, .big .str (Zj0 s c m i 0)⟩))
 |0,i,hi=>tgo hC Zbj ZeN (by
  obtain rfl:i=s.length:=by omega
  simp[-List.getD_eq_getElem?_getD,ZbM,sub3,Zj0,AV.bx,Zal])
 |m+1,i,hi=>by
  have hlt:(i:Int)<s.length:=by omega
  have hlt2:i<s.length:=by omega
  refine tgo hC Zbj ZeN ?_
  rw[Zj0]
  by_cases hc:((s.getD i 0).toNat:Int)=c
  ·have ih:=ZsU hC s c hl m (i+1) (i+1) [.str ((s.drop 0).take (i-0))] (by omega) (by omega) (by simp)
   rw[if_pos hc]
   simp[-List.getD_eq_getElem?_getD,ZbM,sub3,hlt,hlt2,hc,AV.bx,Zal]
   exact⟨by omega,by simpa using ih⟩
  ·have ih:=Zuj m (i+1) (by omega)
   rw[if_neg hc]
   simp[-List.getD_eq_getElem?_getD,ZbM,sub3,hlt,hlt2,hc]
   exact⟨by omega,by simpa using ih⟩
end
def Zcp(s:List UInt8)(c:Int):List AV:=Zj0 s c s.length 0 0
theorem ZmB(s:List UInt8)(c:Int)(hl:s.length≤1000000):Zan Tryz.prog 109 [.str s, .int .u8 c] (.row 0 0) (some ⟨9,1, .big .str (Zcp s c)⟩):=
 start (Zog s c) fun _ hC=>tgo hC Zbj Zt0 (by
  have:=Zuj hC s c hl s.length 0 (by omega)
  simp only[Zp9]
  simpa[Zcp]using this)
def Zn5(s:List UInt8):Nat→Nat→Int→Option Int
 |0,_,n=>some n
 |m+1,i,n=>if((s.getD i 0).toNat:Int)<48∨57<((s.getD i 0).toNat:Int)then none else Zn5 s m (i+1) (10*n+(((s.getD i 0).toNat:Int)-48))
def ZcP(s:List UInt8):Nat:=if 0<s.length∧(s.getD 0 0).toNat=45 then 1 else 0
def Zkh(s:List UInt8)(d:Int):Bool:=decide (s.length≠ZcP s∧(s.length:Int)-ZcP s≤d∧¬((s.getD (ZcP s) 0).toNat=48∧1<s.length))
def Zea(s:List UInt8)(d:Int):Option Int:=if Zkh s d=true then(Zn5 s (s.length-ZcP s) (ZcP s) 0).map fun n=>if ZcP s=1 then -n else n else none
def Zms(o:Option Int):AV:=.tup [.int .i64 (o.getD 0), .bool o.isSome]
theorem ZoI(k:Nat)(n x:Int)(h:0≤n∧n<10^k)(hx:0≤x∧x≤9):0≤10*n+x∧10*n+x<10^(k+1):=by
 have:(10:Int)^(k+1)=10*10^k:=by rw[Int.pow_succ];omega
 omega
theorem ZvT{k:Nat}(h:k≤18):(10:Int)^k≤1000000000000000000:=by
 have:∀j,j≤18→(10:Int)^j≤1000000000000000000:=by decide
 exact this k h
section
variable {C:Ctx}(hC:C.P=Tryz.prog)(s:List UInt8)(a:Nat)(ha:a≤1)(hl:s.length≤18+a)
include hC ha hl
theorem ZhK:∀(m i:Nat) (n:Int),i+m=s.length→a≤i→(0≤n∧n<10^(i-a))→Ev C (Zdu s a i n) (ZcM s a i n) (Zew 110 (Zms ((Zn5 s m i n).map fun n=>if a=1 then -n else n)) none)
 |0,i,n,hi,hai,hn=>tgo hC Zbj ZeZ (by
  have hp:=ZvT (k:=i-a) (by omega)
  by_cases h1:a=1
  ·subst h1
   simp[Za9,show ¬(i:Int)<s.length by omega,Zn5,Zms]
   omega
  ·have h0:a=0:=by omega
   subst h0
   simp[Za9,show ¬(i:Int)<s.length by omega,Zn5,Zms])
 |m+1,i,n,hi,hai,hn=>by
  have hlt:(i:Int)<s.length:=by omega
  have hlt2:i<s.length:=by omega
  refine tgo hC Zbj ZeZ ?_
  rw[Zn5]
  have hu:(s.getD i 0).toNat<256:=(s.getD i 0).toNat_lt
  by_cases h1:((s.getD i 0).toNat:Int)<48
  ·rw[if_pos (.inl h1)]
   simp[-List.getD_eq_getElem?_getD,Za9,hlt,hlt2,h1,Zms]
  ·by_cases h2:57<((s.getD i 0).toNat:Int)
   ·rw[if_pos (.inr h2)]
    simp[-List.getD_eq_getElem?_getD,Za9,hlt,hlt2,h1,h2,Zms]
   ·rw[if_neg (by omega)]
    have hs:=ZoI (i-a) n (((s.getD i 0).toNat:Int)-48) hn (by omega)
    have hp:=ZvT (k:=i-a+1) (by omega)
    have ih:=ZhK m (i+1) (10*n+(((s.getD i 0).toNat:Int)-48)) (by omega) (by omega) (by rw[show i+1-a=i-a+1 by omega];exact hs)
    have hu8:std.inR .u8 (((s.getD i 0).toNat:Int)-48)=true:=decide_eq_true ⟨by show(0:Int)≤_;omega,by show _≤(255:Int);omega⟩
    simp[-List.getD_eq_getElem?_getD,Za9,hlt,hlt2,h1,h2,hu8]
    exact⟨by omega,by simpa[-List.getD_eq_getElem?_getD]using ih⟩
end
theorem Zif(s:List UInt8)(d:Int)(h:d≤18∧s.length≤1000000):Zan Tryz.prog 110 [.str s, .int .i64 d] (Zms (Zea s d)) none:=
 start (Zo8 s d) fun C hC=>tgo hC Zbj Zvq (by
  unfold ZpC
  by_cases h0:s.length=0
  ·have ho:Zea s d=none:=by unfold Zea;rw[if_neg (by simp[Zkh,ZcP,h0])]
   rw[ho]
   simp[h0,Zms]
  ·have hp:(0:Int)<s.length:=by omega
   have hp2:0<s.length:=by omega
   by_cases h45:(s.getD 0 0).toNat=45
   ·have hat:ZcP s=1:=by unfold ZcP;rw[if_pos ⟨hp2,h45⟩]
    by_cases h1:s.length=1
    ·have ho:Zea s d=none:=by unfold Zea;rw[if_neg (by simp[Zkh,hat,h1])]
     rw[ho]
     simp[-List.getD_eq_getElem?_getD,hp,hp2,h45,h1,Zms]
    ·have h1i:¬(s.length:Int)=1:=by omega
     have h1l:(1:Int)<s.length:=by omega
     have h1n:1<s.length:=by omega
     by_cases h2:d<(s.length:Int)-1
     ·have ho:Zea s d=none:=by unfold Zea;rw[if_neg (by simp[Zkh,hat];omega)]
      rw[ho]
      simp[-List.getD_eq_getElem?_getD,hp,hp2,h45,h1,h1i,h2,Zms]
      omega
     ·by_cases h3:(s.getD 1 0).toNat=48
      ·have ho:Zea s d=none:=by unfold Zea;rw[if_neg (by simp[-List.getD_eq_getElem?_getD,Zkh,hat,h3,h1n])]
       rw[ho]
       simp[-List.getD_eq_getElem?_getD,hp,hp2,h45,h1,h1i,h1l,h1n,h2,h3,Zms]
       omega
      ·have h3i:¬((s.getD 1 0).toNat:Int)=48:=by omega
       have ho:Zea s d=(Zn5 s (s.length-1) 1 0).map fun n=>if(1:Nat)=1 then -n else n:=by
        unfold Zea;rw[if_pos (by simp[-List.getD_eq_getElem?_getD,Zkh,hat,h3];omega),hat]
       have ih:=ZhK hC s 1 (by omega) (by omega) (s.length-1) 1 0 (by omega) (by omega) (by decide)
       rw[ho]
       simp[-List.getD_eq_getElem?_getD,hp,hp2,h45,h1,h1i,h1l,h1n,h2,h3i]
       exact⟨by omega,by simpa[-List.getD_eq_getElem?_getD]using ih⟩
   ·have hat:ZcP s=0:=by unfold ZcP;rw[if_neg (fun hh=>h45 hh.2)]
    have h45i:¬((s.getD 0 0).toNat:Int)=45:=by omega
    have h0i:¬(s.length:Int)=0:=by omega
    by_cases h2:d<(s.length:Int)
    ·have ho:Zea s d=none:=by unfold Zea;rw[if_neg (by simp[Zkh,hat];omega)]
     rw[ho]
     simp[-List.getD_eq_getElem?_getD,hp,hp2,h45i,h0,h0i,h2,Zms]
     omega
    ·have loop:(Zkh s d=true)→Zea s d=(Zn5 s s.length 0 0).map fun n=>if(0:Nat)=1 then -n else n:=fun hg=>by
      unfold Zea;rw[if_pos hg,hat];rfl
     have ih:=ZhK hC s 0 (by omega) (by omega) s.length 0 0 (by omega) (by omega) (by decide)
     by_cases h3:(s.getD 0 0).toNat=48
     ·by_cases h4:1<s.length
      ·have ho:Zea s d=none:=by unfold Zea;rw[if_neg (by simp[-List.getD_eq_getElem?_getD,Zkh,hat,h3,h4])]
       rw[ho]
       simp[-List.getD_eq_getElem?_getD,hp,hp2,h45i,h0,h0i,h2,h3,h4,show(1:Int)<s.length by omega,Zms]
       omega
      ·rw[loop (by simp[-List.getD_eq_getElem?_getD,Zkh,hat,h3,h4,h0];omega)]
       simp[-List.getD_eq_getElem?_getD,hp,hp2,h45i,h0,h0i,h2,h3,h4,show ¬(1:Int)<s.length by omega]
       exact⟨by omega,by simpa[-List.getD_eq_getElem?_getD]using ih⟩
     ·have h3i:¬((s.getD 0 0).toNat:Int)=48:=by omega
      rw[loop (by simp[-List.getD_eq_getElem?_getD,Zkh,hat,h3,h0];omega)]
      simp[-List.getD_eq_getElem?_getD,hp,hp2,h45i,h0,h0i,h2,h3i]
      exact⟨by omega,by simpa[-List.getD_eq_getElem?_getD]using ih⟩)
def ZaL(s:List UInt8)(d:Int):Int:=(Zea s d).getD 0
def Zdi(s:List UInt8)(d:Int):Bool:=(Zea s d).isSome
theorem Zjp(s:List UInt8)(d:Int)(h:d≤18∧s.length≤1000000):Zan Tryz.prog 110 [.str s, .int .i64 d] (.tup [.int .i64 (ZaL s d), .bool (Zdi s d)]) none:=Zif s d h
def wordsE:List AV:=[.str [112,97,115,115], .str [115,101,110,100], .str [97,114,114,105,118,101], .str [104,101,97,114], .str [108,111,115,101], .str [100,114,111,112], .str [114,101,112,101,97,116], .str [114,101,115,116,97,114,116], .str [114,101,98,111,111,116]]
theorem Zj6:Zan Tryz.prog 111 [] (.row 0 0) (some ⟨9,1, .big .str wordsE⟩):=
 start Zoe fun C hC=>tgo hC Zbj Zup (by simp[ZpY,wordsE,AV.bx,Zal])
attribute [irreducible] Zcp wordsE ZaL Zdi ZaA
def k105:Ctr:=⟨105,0,fun _ a=>match a with |[.list (.ints .i64 xs)]=>some (decide (ZcQ xs=true), .str (ZaA xs),none) |_=>none⟩
theorem ZsI:k105.OK Tryz.prog:=fun pa args r fr h=>by
 simp only[k105]at h
 split at h
 ·simp only[Option.some.injEq,Prod.mk.injEq,decide_eq_true_eq]at h
  obtain⟨h0,rfl,rfl⟩:=h
  exact Zjf _ h0
 ·cases h
def k109:Ctr:=⟨109,0,fun _ a=>match a with |[.str s, .int .u8 c]=>some (decide (s.length≤1000000), .row 0 0,some ⟨9,1, .big .str (Zcp s c)⟩) |_=>none⟩
theorem Zsy:k109.OK Tryz.prog:=fun pa args r fr h=>by
 simp only[k109]at h
 split at h
 ·simp only[Option.some.injEq,Prod.mk.injEq,decide_eq_true_eq]at h
  obtain⟨h0,rfl,rfl⟩:=h
  exact ZmB _ _ h0
 ·cases h
def k110:Ctr:=⟨110,0,fun _ a=>match a with |[.str s, .int .i64 d]=>some (decide (d≤18∧s.length≤1000000), .tup [.int .i64 (ZaL s d), .bool (Zdi s d)],none) |_=>none⟩
theorem ZrX:k110.OK Tryz.prog:=fun pa args r fr h=>by
 simp only[k110]at h
 split at h
 ·simp only[Option.some.injEq,Prod.mk.injEq,decide_eq_true_eq]at h
  obtain⟨h0,rfl,rfl⟩:=h
  exact Zjp _ _ h0
 ·cases h
def k111:Ctr:=⟨111,0,fun _ a=>match a with |[]=>some (true, .row 0 0,some ⟨9,1, .big .str wordsE⟩) |_=>none⟩
theorem Zqs:k111.OK Tryz.prog:=fun pa args r fr h=>by
 simp only[k111]at h
 split at h
 ·cases h
  exact Zj6
 ·cases h
def Ls1:List Ctr:=[k105,k109,k110,k111]++Ls0
theorem Zwe:Zaq Tryz.prog Ls1:=⟨ZsI,⟨Zsy,⟨ZrX,⟨Zqs,Zbj⟩⟩⟩⟩
end Go.Proofs.YtkeoeooghhjibaaGreatDoor
/- Paths of functions, printed by the explorer (Gx). No condition. -/
namespace Go.Proofs.YtkeoeooghhjibaaGreatDoor
set_option maxRecDepth 100000
set_option linter.unusedVariables false
def ZpO(n:Int):AFrame:={ fn:=112,N:=27,env:=[(0,AV.int .i64 n)],todo:=[.code a112.code],defs:=[],rnd:=none,ret:=false,res:=[ARes.tmp 2] }
def ZxM(n:Int):List AFrame:=[(ZpO n)]
theorem Zoq(n:Int):Zaz tab 112 [AV.int .i64 n]=some (ZpO n):=rfl
def Zds(l0:List UInt8)(n1:Int)(l2:List UInt8):List AFrame:=[{ fn:=112,N:=27,env:=[(0,AV.int .i64 n1),(3,AV.str l2),(4,AV.str l0)],todo:=.code (ACode.gh [] ZpM)::ZtT,defs:=[],rnd:=none,ret:=false,res:=[ARes.tmp 2] }]
def ZcG(l0:List UInt8)(n1:Int)(l2:List UInt8):Zaa:=[]
abbrev ZcR(l0:List UInt8)(n1:Int)(l2:List UInt8):List AFrame×Zaa:=(Zds l0 n1 l2,ZcG l0 n1 l2)
def ZpI(A:Ar)(K:KT)(F:FT)(n:Int):Prop:=bB (A.eq n 0) (F (AV.str [48]) (none)) (bB (A.lt n 0) (K (ZcR ([45]) (n) ([]))) (K (ZcR ([]) (n) ([]))))
theorem ZuL{A:Ar}{K:KT}{F:FT}{M:MT}{n:Int} :ZaE A tab Ls0 112 K F M (.run 10 (.tf (.run 5 (.fn)) (.run 12 (.tf (.run 7 (.hd)) (.run 5 (.hd)))))) (ZxM n) []=ZpI A K F n:=by kernel_rfl
def ZbP(A:Ar)(K:KT)(F:FT)(l0:List UInt8)(n1:Int)(l2:List UInt8):Prop:=bB (A.not (A.eq n1 0)) (rB [Zah (A.not (A.eq 10 0)) (A.inR .i64 (A.quo n1 10)),Nat.ble (A.lenS [UInt8.ofNat (A.nat (A.add 48 (A.max (A.rem n1 10) (A.neg (A.rem n1 10)))))]+A.lenS l2) 4294967296,List.all [AV.int .u8 (A.add 48 (A.max (A.rem n1 10) (A.neg (A.rem n1 10))))] fun x=>AV.bx x&&Nat.beq (Zal A x) 1,A.inR .u8 (A.add 48 (A.max (A.rem n1 10) (A.neg (A.rem n1 10)))),A.inR .i64 (A.add 48 (A.max (A.rem n1 10) (A.neg (A.rem n1 10)))),A.inR .i64 (A.neg (A.rem n1 10)),A.not (A.eq 10 0)] (K (ZcR (l0) (A.quo n1 10) (A.appS [UInt8.ofNat (A.nat (A.add 48 (A.max (A.rem n1 10) (A.neg (A.rem n1 10)))))] l2)))) (rB [Nat.ble (A.lenS l0+A.lenS l2) 4294967296] (F (AV.str (A.appS l0 l2)) (none)))
theorem ZeQ{A:Ar}{K:KT}{F:FT}{M:MT}{l0:List UInt8}{n1:Int}{l2:List UInt8} :ZaE A tab Ls0 112 K F M (.run 7 (.tf (.run 43 (.hd)) (.run 9 (.fn)))) (Zds l0 n1 l2) (ZcG l0 n1 l2)=ZbP A K F l0 n1 l2:=by kernel_rfl
end Go.Proofs.YtkeoeooghhjibaaGreatDoor
/- Contracts as a list. No condition. -/
namespace Go.Proofs.YtkeoeooghhjibaaGreatDoor
theorem Zvr(n:Int):(Int.tdiv n 10).natAbs=n.natAbs/10:=by
 rw[Int.natAbs_tdiv];rfl
theorem Zut(n:Int):max (Int.tmod n 10) (-(Int.tmod n 10))=((n.natAbs%10:Nat):Int):=by
 have h1:(Int.tmod n 10).natAbs=n.natAbs%10:=by rw[Int.natAbs_tmod];rfl
 omega
def Zn7(u:Nat):List UInt8:=if u=0 then []else Lib.decDigits u
theorem ZnO(u:Nat)(h:u≠0):Zn7 u=Zn7 (u/10)++[UInt8.ofNat (48+u%10)]:=by
 unfold Zn7
 rw[if_neg h,Lib.decDigits]
 by_cases h1:u<10
 ·rw[dif_pos h1,if_pos (by omega),show u%10=u by omega];rfl
 ·rw[dif_neg h1,if_neg (by omega)]
section
variable {C:Ctx}(hC:C.P=Tryz.prog)(l0:List UInt8)(h0:l0.length≤1)
include hC h0
theorem Zh3:∀(k:Nat) (n:Int) (l2:List UInt8),n.natAbs<10^k→l2.length+k≤40→(-9223372036854775808≤n∧n≤9223372036854775807)→Ev C (Zds l0 n l2) (ZcG l0 n l2) (Zew 112 (.str (l0++(Zn7 n.natAbs++l2))) none)
 |0,n,l2,hk,hl,hn=>tgo hC Zbj ZeQ (by
  obtain rfl:n=0:=by
   simp at hk;exact hk
  simp[ZbP,Zn7]
  omega)
 |k+1,n,l2,hk,hl,hn=>by
  refine tgo hC Zbj ZeQ ?_
  by_cases hz:n=0
  ·subst hz
   simp[ZbP,Zn7]
   omega
  ·have e1:=Zvr n
   have e2:=Zut n
   have hq:(Int.tdiv n 10).natAbs<10^k:=by
    rw[e1]
    have:(10:Nat)^(k+1)=10^k*10:=Nat.pow_succ ..
    omega
   have ih:=Zh3 k (Int.tdiv n 10) ([UInt8.ofNat (48+n.natAbs%10)]++l2) hq (by simp;omega) (by omega)
   rw[e1]at ih
   rw[ZnO n.natAbs (by omega)]
   have hm:n.natAbs%10<10:=Nat.mod_lt _ (by decide)
   have e3:(48+max (Int.tmod n 10) (-(Int.tmod n 10))).toNat=48+n.natAbs%10:=by rw[e2];omega
   have hu8:std.inR .u8 (48+max (Int.tmod n 10) (-(Int.tmod n 10)))=true:=decide_eq_true ⟨by show(0:Int)≤_;omega,by show _≤(255:Int);omega⟩
   simp[ZbP,hz,hu8,e3,AV.bx,Zal]
   refine⟨by omega,?_⟩
   simpa using ih
end
theorem Zh1(n:Int)(h:Zbx n=true):Zan Tryz.prog 112 [.int .i64 n] (.str (Lib.itoa n)) none:=
 start (Zoq n) fun C hC=>tgo hC Zbj ZuL (by
  have hn:=i64B_iff.1 h
  unfold ZpI
  have hb:n.natAbs<10^20:=by
   have:(10:Nat)^20=100000000000000000000:=by decide
   omega
  by_cases hz:n=0
  ·subst hz
   have:Lib.itoa 0=[48]:=by unfold Lib.itoa;rw[if_neg (by decide),Lib.decDigits];rfl
   simp[this]
  ·by_cases hneg:n<0
   ·have ih:=Zh3 hC [45] (by simp) 20 n [] hb (by simp) hn
    have e:Lib.itoa n=[45]++(Zn7 n.natAbs++[]):=by
     unfold Lib.itoa Zn7
     rw[if_pos hneg,if_neg (by omega)];simp
    rw[e]
    simp[hz,hneg]
    simpa using ih
   ·have ih:=Zh3 hC [] (by simp) 20 n [] hb (by simp) hn
    have e:Lib.itoa n=[]++(Zn7 n.natAbs++[]):=by
     unfold Lib.itoa Zn7
     rw[if_neg hneg,if_neg (by omega)]
     simp
     congr 1
     omega
    rw[e]
    simp[hz,hneg]
    simpa using ih)
def k112:Ctr:=⟨112,0,fun _ a=>match a with |[.int .i64 n]=>some (decide (Zbx n=true), .str (Lib.itoa n),none) |_=>none⟩
theorem Zrm:k112.OK Tryz.prog:=fun pa args r fr h=>by
 simp only[k112]at h
 split at h
 ·simp only[Option.some.injEq,Prod.mk.injEq,decide_eq_true_eq]at h
  obtain⟨h0,rfl,rfl⟩:=h
  exact Zh1 _ h0
 ·cases h
def Ls2:List Ctr:=[k112]++Ls1
theorem Za6:Zaq Tryz.prog Ls2:=⟨Zrm,Zwe⟩
end Go.Proofs.YtkeoeooghhjibaaGreatDoor
/- Paths of functions, printed by the explorer (Gx). No condition. -/
namespace Go.Proofs.YtkeoeooghhjibaaGreatDoor
set_option maxRecDepth 100000
set_option linter.unusedVariables false
def Zwj(a b c:Int):AFrame:={ fn:=52,N:=13,env:=[(0,AV.agg (Row.gen [.int .i64 a, .int .i64 b, .int .i64 c]))],todo:=[.code a52.code],defs:=[],rnd:=none,ret:=false,res:=[ARes.tmp 2] }
def ZBi(a b c:Int):List AFrame:=[(Zwj a b c)]
theorem ZrA(a b c:Int):Zaz tab 52 [AV.agg (Row.gen [.int .i64 a, .int .i64 b, .int .i64 c])]=some (Zwj a b c):=rfl
def Zuz(A:Ar)(K:KT)(F:FT)(a b c:Int):Prop:=rB [decide (ZcQ [a,b,c]=true),List.all [AV.int .i64 a,AV.int .i64 b,AV.int .i64 c] fun x=>AV.bx x&&Nat.beq (Zal A x) 1] (F (AV.str (ZaA [a,b,c])) (none))
theorem Zyj{A:Ar}{K:KT}{F:FT}{M:MT}{a b c:Int} :ZaE A tab Ls2 52 K F M (.run 21 (.fn)) (ZBi a b c) []=Zuz A K F a b c:=by kernel_rfl
def ZuJ(ek en:Int):AFrame:={ fn:=53,N:=31,env:=[(0,AV.agg (Row.gen [.int .i64 ek, .int .i64 en]))],todo:=[.code a53.code],defs:=[],rnd:=none,ret:=false,res:=[ARes.tmp 2] }
def ZCE(ek en:Int):List AFrame:=[(ZuJ ek en)]
theorem Zrq(ek en:Int):Zaz tab 53 [AV.agg (Row.gen [.int .i64 ek, .int .i64 en])]=some (ZuJ ek en):=rfl
def ZsO(A:Ar)(K:KT)(F:FT)(ek en:Int):Prop:=bB (A.not (Zae ek 0 8)) (F (AV.str []) (none)) (qB [A.eq ek 0] (rB [!A.eq 1000000000000 0] (rB [Nat.ble (A.lenS (A.appS [112,97,115,115] [32])+A.lenS (ZaA [en])) 4294967296,decide (ZcQ [en]=true),List.all [AV.int .i64 en] fun x=>AV.bx x&&Nat.beq (Zal A x) 1,Nat.ble (A.lenS [112,97,115,115]+A.lenS [32]) 4294967296,A.eq ek 0] (F (AV.str (A.appS (A.appS [112,97,115,115] [32]) (ZaA [en]))) (none)))) (qB [A.eq ek (Int.ofNat 1)] (rB [!A.eq 11 0] (rB [Nat.ble (A.lenS (A.appS [115,101,110,100] [32])+A.lenS (ZaA [en])) 4294967296,decide (ZcQ [en]=true),List.all [AV.int .i64 en] fun x=>AV.bx x&&Nat.beq (Zal A x) 1,Nat.ble (A.lenS [115,101,110,100]+A.lenS [32]) 4294967296,A.eq ek (Int.ofNat 1)] (F (AV.str (A.appS (A.appS [115,101,110,100] [32]) (ZaA [en]))) (none)))) (qB [A.eq ek (Int.ofNat 2)] (rB [!A.eq 5 0] (rB [Nat.ble (A.lenS (A.appS [97,114,114,105,118,101] [32])+A.lenS (ZaA [en])) 4294967296,decide (ZcQ [en]=true),List.all [AV.int .i64 en] fun x=>AV.bx x&&Nat.beq (Zal A x) 1,Nat.ble (A.lenS [97,114,114,105,118,101]+A.lenS [32]) 4294967296,A.eq ek (Int.ofNat 2)] (F (AV.str (A.appS (A.appS [97,114,114,105,118,101] [32]) (ZaA [en]))) (none)))) (qB [A.eq ek (Int.ofNat 3)] (rB [!A.eq 5 0] (rB [Nat.ble (A.lenS (A.appS [104,101,97,114] [32])+A.lenS (ZaA [en])) 4294967296,decide (ZcQ [en]=true),List.all [AV.int .i64 en] fun x=>AV.bx x&&Nat.beq (Zal A x) 1,Nat.ble (A.lenS [104,101,97,114]+A.lenS [32]) 4294967296,A.eq ek (Int.ofNat 3)] (F (AV.str (A.appS (A.appS [104,101,97,114] [32]) (ZaA [en]))) (none)))) (qB [A.eq ek (Int.ofNat 4)] (rB [!A.eq 5 0] (rB [Nat.ble (A.lenS (A.appS [108,111,115,101] [32])+A.lenS (ZaA [en])) 4294967296,decide (ZcQ [en]=true),List.all [AV.int .i64 en] fun x=>AV.bx x&&Nat.beq (Zal A x) 1,Nat.ble (A.lenS [108,111,115,101]+A.lenS [32]) 4294967296,A.eq ek (Int.ofNat 4)] (F (AV.str (A.appS (A.appS [108,111,115,101] [32]) (ZaA [en]))) (none)))) (qB [A.eq ek (Int.ofNat 5)] (rB [!A.eq 5 0] (rB [Nat.ble (A.lenS (A.appS [100,114,111,112] [32])+A.lenS (ZaA [en])) 4294967296,decide (ZcQ [en]=true),List.all [AV.int .i64 en] fun x=>AV.bx x&&Nat.beq (Zal A x) 1,Nat.ble (A.lenS [100,114,111,112]+A.lenS [32]) 4294967296,A.eq ek (Int.ofNat 5)] (F (AV.str (A.appS (A.appS [100,114,111,112] [32]) (ZaA [en]))) (none)))) (qB [A.eq ek (Int.ofNat 6)] (rB [!A.eq 5 0] (rB [Nat.ble (A.lenS (A.appS [114,101,112,101,97,116] [32])+A.lenS (ZaA [en])) 4294967296,decide (ZcQ [en]=true),List.all [AV.int .i64 en] fun x=>AV.bx x&&Nat.beq (Zal A x) 1,Nat.ble (A.lenS [114,101,112,101,97,116]+A.lenS [32]) 4294967296,A.eq ek (Int.ofNat 6)] (F (AV.str (A.appS (A.appS [114,101,112,101,97,116] [32]) (ZaA [en]))) (none)))) (qB [A.eq ek (Int.ofNat 7)] (rB [A.eq 0 0] (rB [A.eq ek (Int.ofNat 7)] (F (AV.str [114,101,115,116,97,114,116]) (none)))) (rB [A.eq ek (Int.ofNat 8)] (rB [A.eq 0 0] (rB [A.eq ek (Int.ofNat 8)] (F (AV.str [114,101,98,111,111,116]) (none)))))))))))))
theorem Zxb{A:Ar}{K:KT}{F:FT}{M:MT}{ek en:Int} :ZaE A tab Ls2 53 K F M (.run 19 (.tf (.run 5 (.fn)) (.run 6 (.alt [true] (.run 4 (.fy (.run 2 (.ty (.run 2 (.fn)))))) (.alt [false,true] (.run 4 (.fy (.run 2 (.alt [false,true] (.run 2 (.fn)) (.no))))) (.alt [false,false,true] (.run 4 (.fy (.run 2 (.alt [false,false,true] (.run 2 (.fn)) (.no))))) (.alt [false,false,false,true] (.run 4 (.fy (.run 2 (.alt [false,false,false,true] (.run 2 (.fn)) (.no))))) (.alt [false,false,false,false,true] (.run 4 (.fy (.run 2 (.alt [false,false,false,false,true] (.run 2 (.fn)) (.no))))) (.alt [false,false,false,false,false,true] (.run 4 (.fy (.run 2 (.alt [false,false,false,false,false,true] (.run 2 (.fn)) (.no))))) (.alt [false,false,false,false,false,false,true] (.run 4 (.fy (.run 2 (.alt [false,false,false,false,false,false,true] (.run 2 (.fn)) (.no))))) (.alt [false,false,false,false,false,false,false,true] (.run 4 (.ty (.run 4 (.alt [false,false,false,false,false,false,false,true] (.run 5 (.fn)) (.no))))) (.alt [false,false,false,false,false,false,false,false,true] (.run 4 (.ty (.run 4 (.alt [false,false,false,false,false,false,false,false,true] (.run 5 (.fn)) (.no))))) (.no))))))))))))) (ZCE ek en) []=ZsO A K F ek en:=by kernel_rfl
def Zuy(s:List UInt8):AFrame:={ fn:=55,N:=57,env:=[(0,AV.str s)],todo:=[.code a55.code],defs:=[],rnd:=none,ret:=false,res:=[ARes.cell 2 true 2,ARes.tmp 3] }
def ZBm(s:List UInt8):List AFrame:=[(Zuy s)]
theorem Zr7(s:List UInt8):Zaz tab 55 [AV.str s]=some (Zuy s):=rfl
def Zgn(l0 l1:List UInt8)(b2:Bool)(n3:Int):List AFrame:=[{ fn:=55,N:=57,env:=[(2,AV.ptr 55003 0 0 0),(4,AV.str l0),(5,AV.str l1),(6,AV.bool b2),(19,AV.agg (Row.gen [.str [112,97,115,115], .int .i64 1, .int .i64 1000000000000,AV.fn 127 [], .str [115,101,110,100], .int .i64 0, .int .i64 11,AV.fn 128 [], .str [97,114,114,105,118,101], .int .i64 0, .int .i64 5,AV.fn 129 [], .str [104,101,97,114], .int .i64 0, .int .i64 5,AV.fn 130 [], .str [108,111,115,101], .int .i64 0, .int .i64 5,AV.fn 131 [], .str [100,114,111,112], .int .i64 0, .int .i64 5,AV.fn 132 [], .str [114,101,112,101,97,116], .int .i64 0, .int .i64 5,AV.fn 133 [], .str [114,101,115,116,97,114,116], .int .i64 0, .int .i64 0,AV.fn 134 [], .str [114,101,98,111,111,116], .int .i64 0, .int .i64 0,AV.fn 135 []])),(20,AV.int .i64 n3)],todo:=.code (ACode.gh [] Zt9)::Zx7,defs:=[],rnd:=none,ret:=false,res:=[ARes.cell 2 true 2,ARes.tmp 3] }]
def Zei(l0 l1:List UInt8)(b2:Bool)(n3:Int):Zaa:=[(55003,{ base:=0,blks:=[Blk.row 63 2 (Row.gen [AV.agg (Row.gen [AV.int .i64 0,AV.int .i64 0])])] })]
abbrev Zar(l0 l1:List UInt8)(b2:Bool)(n3:Int):List AFrame×Zaa:=(Zgn l0 l1 b2 n3,Zei l0 l1 b2 n3)
def Zvj(A:Ar)(K:KT)(F:FT)(s:List UInt8):Prop:=rB [decide (List.length s≤1000000)] (K (Zar ((Go.Lib.cut s [32]).1) ((Go.Lib.cut s [32]).snd.1) ((Go.Lib.cut s [32]).snd.2) (0)))
theorem Zx1{A:Ar}{K:KT}{F:FT}{M:MT}{s:List UInt8} :ZaE A tab Ls2 55 K F M (.run 27 (.hd)) (ZBm s) []=Zvj A K F s:=by kernel_rfl
def Zez(A:Ar)(K:KT)(F:FT)(l0 l1:List UInt8)(b2:Bool)(n3:Int):Prop:=bB (A.lt n3 9) (qB [A.eq n3 0] (bB (A.not (A.eqS [112,97,115,115] l0)) (rB [A.inR .i64 (A.add 0 1)] (K (Zar (l0) (l1) (b2) (A.add 0 1)))) (bB (A.not (Decidable.rec (fun h=>(fun x=>false) h) (fun h=>(fun x=>true) h) (instDecidableEqBool (A.lt 0 1000000000000) b2))) (rB [A.inR .i64 (A.add 0 1)] (K (Zar (l0) (l1) (b2) (A.add 0 1)))) (bB (b2) (rB [decide (List.length l1≤1000000)] (bB (A.not (Zch l1 13)) (F (AV.tup [AV.agg (Row.gen [.int .i64 0, .int .i64 0]),AV.int .i64 7]) (none)) (bB (A.not (A.eq (evE n3 (ZbK l1)) 0)) (F (AV.tup [AV.agg (Row.gen [.int .i64 0, .int .i64 0]),AV.int .i64 (evE n3 (ZbK l1))]) (none)) (F (AV.tup [AV.agg (Row.gen [.int .i64 n3, .int .i64 (ZbK l1)]),AV.int .i64 0]) (none))))) (bB (A.not (A.eq (evE n3 0) 0)) (F (AV.tup [AV.agg (Row.gen [.int .i64 0, .int .i64 0]),AV.int .i64 (evE n3 0)]) (none)) (F (AV.tup [AV.agg (Row.gen [.int .i64 n3, .int .i64 0]),AV.int .i64 0]) (none)))))) (qB [A.eq n3 (Int.ofNat 1)] (bB (A.not (A.eqS [115,101,110,100] l0)) (rB [A.inR .i64 (A.add 1 1)] (K (Zar (l0) (l1) (b2) (A.add 1 1)))) (bB (A.not (Decidable.rec (fun h=>(fun x=>false) h) (fun h=>(fun x=>true) h) (instDecidableEqBool (A.lt 0 11) b2))) (rB [A.inR .i64 (A.add 1 1)] (K (Zar (l0) (l1) (b2) (A.add 1 1)))) (bB (b2) (rB [decide (List.length l1≤1000000)] (bB (A.not (Zch l1 13)) (F (AV.tup [AV.agg (Row.gen [.int .i64 0, .int .i64 0]),AV.int .i64 7]) (none)) (bB (A.not (A.eq (evE n3 (ZbK l1)) 0)) (F (AV.tup [AV.agg (Row.gen [.int .i64 0, .int .i64 0]),AV.int .i64 (evE n3 (ZbK l1))]) (none)) (F (AV.tup [AV.agg (Row.gen [.int .i64 n3, .int .i64 (ZbK l1)]),AV.int .i64 0]) (none))))) (bB (A.not (A.eq (evE n3 0) 0)) (F (AV.tup [AV.agg (Row.gen [.int .i64 0, .int .i64 0]),AV.int .i64 (evE n3 0)]) (none)) (F (AV.tup [AV.agg (Row.gen [.int .i64 n3, .int .i64 0]),AV.int .i64 0]) (none)))))) (qB [A.eq n3 (Int.ofNat 2)] (bB (A.not (A.eqS [97,114,114,105,118,101] l0)) (rB [A.inR .i64 (A.add 2 1)] (K (Zar (l0) (l1) (b2) (A.add 2 1)))) (bB (A.not (Decidable.rec (fun h=>(fun x=>false) h) (fun h=>(fun x=>true) h) (instDecidableEqBool (A.lt 0 5) b2))) (rB [A.inR .i64 (A.add 2 1)] (K (Zar (l0) (l1) (b2) (A.add 2 1)))) (bB (b2) (rB [decide (List.length l1≤1000000)] (bB (A.not (Zch l1 13)) (F (AV.tup [AV.agg (Row.gen [.int .i64 0, .int .i64 0]),AV.int .i64 7]) (none)) (bB (A.not (A.eq (evE n3 (ZbK l1)) 0)) (F (AV.tup [AV.agg (Row.gen [.int .i64 0, .int .i64 0]),AV.int .i64 (evE n3 (ZbK l1))]) (none)) (F (AV.tup [AV.agg (Row.gen [.int .i64 n3, .int .i64 (ZbK l1)]),AV.int .i64 0]) (none))))) (bB (A.not (A.eq (evE n3 0) 0)) (F (AV.tup [AV.agg (Row.gen [.int .i64 0, .int .i64 0]),AV.int .i64 (evE n3 0)]) (none)) (F (AV.tup [AV.agg (Row.gen [.int .i64 n3, .int .i64 0]),AV.int .i64 0]) (none)))))) (qB [A.eq n3 (Int.ofNat 3)] (bB (A.not (A.eqS [104,101,97,114] l0)) (rB [A.inR .i64 (A.add 3 1)] (K (Zar (l0) (l1) (b2) (A.add 3 1)))) (bB (A.not (Decidable.rec (fun h=>(fun x=>false) h) (fun h=>(fun x=>true) h) (instDecidableEqBool (A.lt 0 5) b2))) (rB [A.inR .i64 (A.add 3 1)] (K (Zar (l0) (l1) (b2) (A.add 3 1)))) (bB (b2) (rB [decide (List.length l1≤1000000)] (bB (A.not (Zch l1 13)) (F (AV.tup [AV.agg (Row.gen [.int .i64 0, .int .i64 0]),AV.int .i64 7]) (none)) (bB (A.not (A.eq (evE n3 (ZbK l1)) 0)) (F (AV.tup [AV.agg (Row.gen [.int .i64 0, .int .i64 0]),AV.int .i64 (evE n3 (ZbK l1))]) (none)) (F (AV.tup [AV.agg (Row.gen [.int .i64 n3, .int .i64 (ZbK l1)]),AV.int .i64 0]) (none))))) (bB (A.not (A.eq (evE n3 0) 0)) (F (AV.tup [AV.agg (Row.gen [.int .i64 0, .int .i64 0]),AV.int .i64 (evE n3 0)]) (none)) (F (AV.tup [AV.agg (Row.gen [.int .i64 n3, .int .i64 0]),AV.int .i64 0]) (none)))))) (qB [A.eq n3 (Int.ofNat 4)] (bB (A.not (A.eqS [108,111,115,101] l0)) (rB [A.inR .i64 (A.add 4 1)] (K (Zar (l0) (l1) (b2) (A.add 4 1)))) (bB (A.not (Decidable.rec (fun h=>(fun x=>false) h) (fun h=>(fun x=>true) h) (instDecidableEqBool (A.lt 0 5) b2))) (rB [A.inR .i64 (A.add 4 1)] (K (Zar (l0) (l1) (b2) (A.add 4 1)))) (bB (b2) (rB [decide (List.length l1≤1000000)] (bB (A.not (Zch l1 13)) (F (AV.tup [AV.agg (Row.gen [.int .i64 0, .int .i64 0]),AV.int .i64 7]) (none)) (bB (A.not (A.eq (evE n3 (ZbK l1)) 0)) (F (AV.tup [AV.agg (Row.gen [.int .i64 0, .int .i64 0]),AV.int .i64 (evE n3 (ZbK l1))]) (none)) (F (AV.tup [AV.agg (Row.gen [.int .i64 n3, .int .i64 (ZbK l1)]),AV.int .i64 0]) (none))))) (bB (A.not (A.eq (evE n3 0) 0)) (F (AV.tup [AV.agg (Row.gen [.int .i64 0, .int .i64 0]),AV.int .i64 (evE n3 0)]) (none)) (F (AV.tup [AV.agg (Row.gen [.int .i64 n3, .int .i64 0]),AV.int .i64 0]) (none)))))) (qB [A.eq n3 (Int.ofNat 5)] (bB (A.not (A.eqS [100,114,111,112] l0)) (rB [A.inR .i64 (A.add 5 1)] (K (Zar (l0) (l1) (b2) (A.add 5 1)))) (bB (A.not (Decidable.rec (fun h=>(fun x=>false) h) (fun h=>(fun x=>true) h) (instDecidableEqBool (A.lt 0 5) b2))) (rB [A.inR .i64 (A.add 5 1)] (K (Zar (l0) (l1) (b2) (A.add 5 1)))) (bB (b2) (rB [decide (List.length l1≤1000000)] (bB (A.not (Zch l1 13)) (F (AV.tup [AV.agg (Row.gen [.int .i64 0, .int .i64 0]),AV.int .i64 7]) (none)) (bB (A.not (A.eq (evE n3 (ZbK l1)) 0)) (F (AV.tup [AV.agg (Row.gen [.int .i64 0, .int .i64 0]),AV.int .i64 (evE n3 (ZbK l1))]) (none)) (F (AV.tup [AV.agg (Row.gen [.int .i64 n3, .int .i64 (ZbK l1)]),AV.int .i64 0]) (none))))) (bB (A.not (A.eq (evE n3 0) 0)) (F (AV.tup [AV.agg (Row.gen [.int .i64 0, .int .i64 0]),AV.int .i64 (evE n3 0)]) (none)) (F (AV.tup [AV.agg (Row.gen [.int .i64 n3, .int .i64 0]),AV.int .i64 0]) (none)))))) (qB [A.eq n3 (Int.ofNat 6)] (bB (A.not (A.eqS [114,101,112,101,97,116] l0)) (rB [A.inR .i64 (A.add 6 1)] (K (Zar (l0) (l1) (b2) (A.add 6 1)))) (bB (A.not (Decidable.rec (fun h=>(fun x=>false) h) (fun h=>(fun x=>true) h) (instDecidableEqBool (A.lt 0 5) b2))) (rB [A.inR .i64 (A.add 6 1)] (K (Zar (l0) (l1) (b2) (A.add 6 1)))) (bB (b2) (rB [decide (List.length l1≤1000000)] (bB (A.not (Zch l1 13)) (F (AV.tup [AV.agg (Row.gen [.int .i64 0, .int .i64 0]),AV.int .i64 7]) (none)) (bB (A.not (A.eq (evE n3 (ZbK l1)) 0)) (F (AV.tup [AV.agg (Row.gen [.int .i64 0, .int .i64 0]),AV.int .i64 (evE n3 (ZbK l1))]) (none)) (F (AV.tup [AV.agg (Row.gen [.int .i64 n3, .int .i64 (ZbK l1)]),AV.int .i64 0]) (none))))) (bB (A.not (A.eq (evE n3 0) 0)) (F (AV.tup [AV.agg (Row.gen [.int .i64 0, .int .i64 0]),AV.int .i64 (evE n3 0)]) (none)) (F (AV.tup [AV.agg (Row.gen [.int .i64 n3, .int .i64 0]),AV.int .i64 0]) (none)))))) (qB [A.eq n3 (Int.ofNat 7)] (bB (A.not (A.eqS [114,101,115,116,97,114,116] l0)) (rB [A.inR .i64 (A.add 7 1)] (K (Zar (l0) (l1) (b2) (A.add 7 1)))) (bB (A.not (Decidable.rec (fun h=>(fun x=>false) h) (fun h=>(fun x=>true) h) (instDecidableEqBool (A.lt 0 0) b2))) (rB [A.inR .i64 (A.add 7 1)] (K (Zar (l0) (l1) (b2) (A.add 7 1)))) (bB (b2) (rB [decide (List.length l1≤1000000)] (bB (A.not (Zch l1 13)) (F (AV.tup [AV.agg (Row.gen [.int .i64 0, .int .i64 0]),AV.int .i64 7]) (none)) (bB (A.not (A.eq (evE n3 (ZbK l1)) 0)) (F (AV.tup [AV.agg (Row.gen [.int .i64 0, .int .i64 0]),AV.int .i64 (evE n3 (ZbK l1))]) (none)) (F (AV.tup [AV.agg (Row.gen [.int .i64 n3, .int .i64 (ZbK l1)]),AV.int .i64 0]) (none))))) (bB (A.not (A.eq (evE n3 0) 0)) (F (AV.tup [AV.agg (Row.gen [.int .i64 0, .int .i64 0]),AV.int .i64 (evE n3 0)]) (none)) (F (AV.tup [AV.agg (Row.gen [.int .i64 n3, .int .i64 0]),AV.int .i64 0]) (none)))))) (rB [A.eq n3 (Int.ofNat 8)] (bB (A.not (A.eqS [114,101,98,111,111,116] l0)) (rB [A.inR .i64 (A.add 8 1)] (K (Zar (l0) (l1) (b2) (A.add 8 1)))) (bB (A.not (Decidable.rec (fun h=>(fun x=>false) h) (fun h=>(fun x=>true) h) (instDecidableEqBool (A.lt 0 0) b2))) (rB [A.inR .i64 (A.add 8 1)] (K (Zar (l0) (l1) (b2) (A.add 8 1)))) (bB (b2) (rB [decide (List.length l1≤1000000)] (bB (A.not (Zch l1 13)) (F (AV.tup [AV.agg (Row.gen [.int .i64 0, .int .i64 0]),AV.int .i64 7]) (none)) (bB (A.not (A.eq (evE n3 (ZbK l1)) 0)) (F (AV.tup [AV.agg (Row.gen [.int .i64 0, .int .i64 0]),AV.int .i64 (evE n3 (ZbK l1))]) (none)) (F (AV.tup [AV.agg (Row.gen [.int .i64 n3, .int .i64 (ZbK l1)]),AV.int .i64 0]) (none))))) (bB (A.not (A.eq (evE n3 0) 0)) (F (AV.tup [AV.agg (Row.gen [.int .i64 0, .int .i64 0]),AV.int .i64 (evE n3 0)]) (none)) (F (AV.tup [AV.agg (Row.gen [.int .i64 n3, .int .i64 0]),AV.int .i64 0]) (none))))))))))))))) (F (AV.tup [AV.agg (Row.gen [.int .i64 0, .int .i64 0]),AV.int .i64 7]) (none))
theorem Zhf{A:Ar}{K:KT}{F:FT}{M:MT}{l0 l1:List UInt8}{b2:Bool}{n3:Int} :ZaE A tab Ls2 55 K F M (.run 6 (.tf (.run 6 (.alt [true] (.run 12 (.tf (.ty (.ty (.ty (.ty (.ty (.run 2 (.ty (.run 7 (.hd))))))))) (.fy (.fy (.fy (.fy (.fy (.run 2 (.tf (.run 7 (.hd)) (.run 13 (.tf (.run 16 (.tf (.run 7 (.fn)) (.run 18 (.tf (.run 8 (.fn)) (.run 8 (.fn)))))) (.run 13 (.tf (.run 8 (.fn)) (.run 8 (.fn))))))))))))))) (.alt [false,true] (.run 12 (.tf (.ty (.ty (.ty (.ty (.ty (.run 2 (.ty (.run 7 (.hd))))))))) (.fy (.fy (.fy (.fy (.fy (.run 2 (.tf (.run 7 (.hd)) (.run 13 (.tf (.run 16 (.tf (.run 7 (.fn)) (.run 18 (.tf (.run 8 (.fn)) (.run 8 (.fn)))))) (.run 13 (.tf (.run 8 (.fn)) (.run 8 (.fn))))))))))))))) (.alt [false,false,true] (.run 12 (.tf (.ty (.ty (.ty (.ty (.ty (.run 2 (.ty (.run 7 (.hd))))))))) (.fy (.fy (.fy (.fy (.fy (.run 2 (.tf (.run 7 (.hd)) (.run 13 (.tf (.run 16 (.tf (.run 7 (.fn)) (.run 18 (.tf (.run 8 (.fn)) (.run 8 (.fn)))))) (.run 13 (.tf (.run 8 (.fn)) (.run 8 (.fn))))))))))))))) (.alt [false,false,false,true] (.run 12 (.tf (.ty (.ty (.ty (.ty (.ty (.run 2 (.ty (.run 7 (.hd))))))))) (.fy (.fy (.fy (.fy (.fy (.run 2 (.tf (.run 7 (.hd)) (.run 13 (.tf (.run 16 (.tf (.run 7 (.fn)) (.run 18 (.tf (.run 8 (.fn)) (.run 8 (.fn)))))) (.run 13 (.tf (.run 8 (.fn)) (.run 8 (.fn))))))))))))))) (.alt [false,false,false,false,true] (.run 12 (.tf (.ty (.ty (.ty (.ty (.ty (.run 2 (.ty (.run 7 (.hd))))))))) (.fy (.fy (.fy (.fy (.fy (.run 2 (.tf (.run 7 (.hd)) (.run 13 (.tf (.run 16 (.tf (.run 7 (.fn)) (.run 18 (.tf (.run 8 (.fn)) (.run 8 (.fn)))))) (.run 13 (.tf (.run 8 (.fn)) (.run 8 (.fn))))))))))))))) (.alt [false,false,false,false,false,true] (.run 12 (.tf (.ty (.ty (.ty (.ty (.ty (.run 2 (.ty (.run 7 (.hd))))))))) (.fy (.fy (.fy (.fy (.fy (.run 2 (.tf (.run 7 (.hd)) (.run 13 (.tf (.run 16 (.tf (.run 7 (.fn)) (.run 18 (.tf (.run 8 (.fn)) (.run 8 (.fn)))))) (.run 13 (.tf (.run 8 (.fn)) (.run 8 (.fn))))))))))))))) (.alt [false,false,false,false,false,false,true] (.run 12 (.tf (.ty (.ty (.ty (.ty (.ty (.run 2 (.ty (.run 7 (.hd))))))))) (.fy (.fy (.fy (.fy (.fy (.run 2 (.tf (.run 7 (.hd)) (.run 13 (.tf (.run 16 (.tf (.run 7 (.fn)) (.run 18 (.tf (.run 8 (.fn)) (.run 8 (.fn)))))) (.run 13 (.tf (.run 8 (.fn)) (.run 8 (.fn))))))))))))))) (.alt [false,false,false,false,false,false,false,true] (.run 12 (.tf (.ty (.ty (.ty (.ty (.ty (.run 2 (.ty (.run 7 (.hd))))))))) (.fy (.fy (.fy (.fy (.fy (.run 2 (.tf (.run 7 (.hd)) (.run 13 (.tf (.run 16 (.tf (.run 7 (.fn)) (.run 18 (.tf (.run 8 (.fn)) (.run 8 (.fn)))))) (.run 13 (.tf (.run 8 (.fn)) (.run 8 (.fn))))))))))))))) (.alt [false,false,false,false,false,false,false,false,true] (.run 12 (.tf (.ty (.ty (.ty (.ty (.ty (.run 2 (.ty (.run 7 (.hd))))))))) (.fy (.fy (.fy (.fy (.fy (.run 2 (.tf (.run 7 (.hd)) (.run 13 (.tf (.run 16 (.tf (.run 7 (.fn)) (.run 18 (.tf (.run 8 (.fn)) (.run 8 (.fn)))))) (.run 13 (.tf (.run 8 (.fn)) (.run 8 (.fn))))))))))))))) (.no))))))))))) (.run 8 (.fn)))) (Zgn l0 l1 b2 n3) (Zei l0 l1 b2 n3)=Zez A K F l0 l1 b2 n3:=by kernel_rfl
def Zvu(s:List UInt8):AFrame:={ fn:=56,N:=49,env:=[(0,AV.str s)],todo:=[.code a56.code],defs:=[],rnd:=none,ret:=false,res:=[ARes.cell 2 true 3,ARes.tmp 3] }
def ZAr(s:List UInt8):List AFrame:=[(Zvu s)]
theorem ZqZ(s:List UInt8):Zaz tab 56 [AV.str s]=some (Zvu s):=rfl
def ZfM(x0:List AV):List AFrame:=[{ fn:=56,N:=49,env:=[(2,AV.ptr 56003 0 0 0),(4,AV.row 56011 0),(5,AV.nils),(6,AV.int .i64 0)],todo:=.code (ACode.gh [] ZrO)::Zua,defs:=[],rnd:=none,ret:=false,res:=[ARes.cell 2 true 3,ARes.tmp 3] }]
def Zeo(x0:List AV):Zaa:=[(56003,{ base:=0,blks:=[Blk.row 82 3 (Row.gen [AV.agg (Row.gen [AV.int .i64 0,AV.int .i64 0,AV.int .i64 0])])] }),(56011,{ base:=0,blks:=[Blk.row 9 1 (Row.big .str x0)] })]
abbrev Zlu(x0:List AV):List AFrame×Zaa:=(ZfM x0,Zeo x0)
def Zgf(x0:List AV)(n1:Int)(l2:List Int):List AFrame:=[{ fn:=56,N:=49,env:=[(2,AV.ptr 56003 0 0 0),(4,AV.row 56011 0),(5,AV.row 56038 0),(6,AV.int .i64 n1)],todo:=.code (ACode.gh [] ZrO)::Zua,defs:=[],rnd:=none,ret:=false,res:=[ARes.cell 2 true 3,ARes.tmp 3] }]
def ZeG(x0:List AV)(n1:Int)(l2:List Int):Zaa:=[(56003,{ base:=0,blks:=[Blk.row 82 3 (Row.gen [AV.agg (Row.gen [AV.int .i64 0,AV.int .i64 0,AV.int .i64 0])])] }),(56011,{ base:=0,blks:=[Blk.row 9 1 (Row.big .str x0)] }),(56038,{ base:=0,blks:=[Blk.row 3 1 (.ints .i64 l2)] })]
abbrev ZgN(x0:List AV)(n1:Int)(l2:List Int):List AFrame×Zaa:=(Zgf x0 n1 l2,ZeG x0 n1 l2)
def ZqO(A:Ar)(K:KT)(F:FT)(s:List UInt8):Prop:=rB [decide (List.length s≤1000000)] (bB (A.not (A.eq (A.int (A.lenA (Zcp s 32))) 3)) (F (AV.tup [AV.agg (Row.gen [.int .i64 0, .int .i64 0, .int .i64 0]),AV.bool false]) (none)) (K (Zlu (Zcp s 32))))
theorem Zw8{A:Ar}{K:KT}{F:FT}{M:MT}{s:List UInt8} :ZaE A tab Ls2 56 K F M (.run 18 (.tf (.run 7 (.fn)) (.run 13 (.hd)))) (ZAr s) []=ZqO A K F s:=by kernel_rfl
def Zc4(A:Ar)(K:KT)(F:FT)(x0:List AV):Prop:=rB [A.lt 0 3] (rB [decide ((13:Int)≤18∧List.length (AV.toS (A.nthA x0 (A.nat 0)))≤1000000),Zah (Nat.blt (A.nat 0) (A.lenA x0)) true,Zah (A.le 0 0) (Nat.blt (A.nat 0) (A.lenA x0))] (bB (A.not (Zdi (AV.toS (A.nthA x0 (A.nat 0))) 13)) (F (AV.tup [AV.agg (Row.gen [.int .i64 0, .int .i64 0, .int .i64 0]),AV.bool false]) (none)) (bB (A.lt (ZaL (AV.toS (A.nthA x0 (A.nat 0))) 13) 0) (F (AV.tup [AV.agg (Row.gen [.int .i64 0, .int .i64 0, .int .i64 0]),AV.bool false]) (none)) (rB [A.inR .i64 (A.add 0 1),Zah (Nat.ble (A.len [ZaL (AV.toS (A.nthA x0 (A.nat 0))) 13]) 4294967296) (Nat.blt 0 (A.len [ZaL (AV.toS (A.nthA x0 (A.nat 0))) 13])),List.all [AV.int .i64 (ZaL (AV.toS (A.nthA x0 (A.nat 0))) 13)] fun x=>AV.bx x&&Nat.beq (Zal A x) 1] (K (ZgN (x0) (A.add 0 1) ([ZaL (AV.toS (A.nthA x0 (A.nat 0))) 13])))))))
theorem Zly{A:Ar}{K:KT}{F:FT}{M:MT}{x0:List AV} :ZaE A tab Ls2 56 K F M (.run 7 (.ty (.run 23 (.tf (.ty (.ty (.run 1 (.ty (.run 7 (.fn)))))) (.fy (.fy (.run 1 (.tf (.run 7 (.fn)) (.run 16 (.hd)))))))))) (ZfM x0) (Zeo x0)=Zc4 A K F x0:=by kernel_rfl
def Zb6(A:Ar)(K:KT)(F:FT)(x0:List AV)(n1:Int)(l2:List Int):Prop:=bB (A.lt n1 3) (rB [decide ((13:Int)≤18∧List.length (AV.toS (A.nthA x0 (A.nat n1)))≤1000000),Zah (Nat.blt (A.nat n1) (A.lenA x0)) true,Zah (A.le 0 n1) (Nat.blt (A.nat n1) (A.lenA x0))] (bB (A.not (Zdi (AV.toS (A.nthA x0 (A.nat n1))) 13)) (F (AV.tup [AV.agg (Row.gen [.int .i64 0, .int .i64 0, .int .i64 0]),AV.bool false]) (none)) (bB (A.lt (ZaL (AV.toS (A.nthA x0 (A.nat n1))) 13) 0) (F (AV.tup [AV.agg (Row.gen [.int .i64 0, .int .i64 0, .int .i64 0]),AV.bool false]) (none)) (rB [A.inR .i64 (A.add n1 1),Nat.ble (A.len l2+A.len [ZaL (AV.toS (A.nthA x0 (A.nat n1))) 13]) 4294967296,List.all [AV.int .i64 (ZaL (AV.toS (A.nthA x0 (A.nat n1))) 13)] fun x=>AV.bx x&&Nat.beq (Zal A x) 1] (K (ZgN (x0) (A.add n1 1) (A.app l2 [ZaL (AV.toS (A.nthA x0 (A.nat n1))) 13]))))))) (rB [Zah (Nat.blt (A.nat 2) (A.len l2)) true,Zah (A.le 0 2) (Nat.blt (A.nat 2) (A.len l2)),Zah (Nat.blt (A.nat 1) (A.len l2)) true,Zah (A.le 0 1) (Nat.blt (A.nat 1) (A.len l2)),Zah (Nat.blt (A.nat 0) (A.len l2)) true,Zah (A.le 0 0) (Nat.blt (A.nat 0) (A.len l2))] (F (AV.tup [AV.agg (Row.gen [.int .i64 (A.nth l2 (A.nat 0)), .int .i64 (A.nth l2 (A.nat 1)), .int .i64 (A.nth l2 (A.nat 2))]),AV.bool true]) (none)))
theorem Zhn{A:Ar}{K:KT}{F:FT}{M:MT}{x0:List AV}{n1:Int}{l2:List Int} :ZaE A tab Ls2 56 K F M (.run 7 (.tf (.run 23 (.tf (.ty (.ty (.run 1 (.ty (.run 7 (.fn)))))) (.fy (.fy (.run 1 (.tf (.run 7 (.fn)) (.run 16 (.hd)))))))) (.run 5 (.fn)))) (Zgf x0 n1 l2) (ZeG x0 n1 l2)=Zb6 A K F x0 n1 l2:=by kernel_rfl
def ZvD(s:List UInt8):AFrame:={ fn:=57,N:=72,env:=[(0,AV.str s)],todo:=[.code a57.code],defs:=[],rnd:=none,ret:=false,res:=[ARes.cell 2 true 2,ARes.tmp 3] }
def ZAS(s:List UInt8):List AFrame:=[(ZvD s)]
theorem Zq7(s:List UInt8):Zaz tab 57 [AV.str s]=some (ZvD s):=rfl
def ZfE(x0:List AV)(n1:Int):List AFrame:=[{ fn:=57,N:=72,env:=[(2,AV.ptr 57003 0 0 0),(4,AV.ptr 57005 0 0 0),(5,AV.row 57014 0),(6,AV.int .i64 n1)],todo:=.code (ACode.gh [] Zv5)::Zw0,defs:=[],rnd:=none,ret:=false,res:=[ARes.cell 2 true 2,ARes.tmp 3] }]
def Zer(x0:List AV)(n1:Int):Zaa:=[(57003,{ base:=0,blks:=[Blk.row 63 2 (Row.gen [AV.agg (Row.gen [AV.int .i64 0,AV.int .i64 0])])] }),(57005,{ base:=0,blks:=[Blk.row 63 2 (Row.gen [AV.agg (Row.gen [AV.int .i64 0,AV.int .i64 0])])] }),(57014,{ base:=0,blks:=[Blk.row 9 1 (Row.big .str x0)] })]
abbrev ZgQ(x0:List AV)(n1:Int):List AFrame×Zaa:=(ZfE x0 n1,Zer x0 n1)
def ZvZ(A:Ar)(K:KT)(F:FT)(s:List UInt8):Prop:=rB [decide (List.length s≤1000000)] (K (ZgQ (Zcp s 32) (0)))
theorem ZxG{A:Ar}{K:KT}{F:FT}{M:MT}{s:List UInt8} :ZaE A tab Ls2 57 K F M (.run 25 (.hd)) (ZAS s) []=ZvZ A K F s:=by kernel_rfl
def Zb1(A:Ar)(K:KT)(F:FT)(x0:List AV)(n1:Int):Prop:=bB (A.lt n1 9) (rB [Zah (Nat.blt (A.nat 0) (A.lenA x0)) true,Zah (A.le 0 0) (Nat.blt (A.nat 0) (A.lenA x0)),Zah (Nat.blt (A.nat n1) (A.lenA wordsE)) true,Zah (A.le 0 n1) (Nat.blt (A.nat n1) (A.lenA wordsE))] (bB (A.not (A.eqS (AV.toS (A.nthA wordsE (A.nat n1))) (AV.toS (A.nthA x0 (A.nat 0))))) (rB [A.inR .i64 (A.add n1 1)] (K (ZgQ (x0) (A.add n1 1)))) (bB (A.not (Zbn n1)) (bB (A.not (A.eq (A.int (A.lenA x0)) 1)) (F (AV.tup [AV.agg (Row.gen [.int .i64 0, .int .i64 0]),AV.int .i64 7]) (none)) (rB [!Zbn n1] (rB [!Zbn n1] (bB (A.not (A.eq (evE n1 0) 0)) (F (AV.tup [AV.agg (Row.gen [.int .i64 0, .int .i64 0]),AV.int .i64 (evE n1 0)]) (none)) (F (AV.tup [AV.agg (Row.gen [.int .i64 n1, .int .i64 0]),AV.int .i64 0]) (none)))))) (rB [Zbn n1] (bB (A.not (A.eq (A.int (A.lenA x0)) 2)) (F (AV.tup [AV.agg (Row.gen [.int .i64 0, .int .i64 0]),AV.int .i64 7]) (none)) (rB [Zbn n1] (rB [decide ((13:Int)≤18∧List.length (AV.toS (A.nthA x0 (A.nat 1)))≤1000000),Zah (Nat.blt (A.nat 1) (A.lenA x0)) true,Zah (A.le 0 1) (Nat.blt (A.nat 1) (A.lenA x0))] (bB (A.not (Zdi (AV.toS (A.nthA x0 (A.nat 1))) 13)) (F (AV.tup [AV.agg (Row.gen [.int .i64 0, .int .i64 0]),AV.int .i64 7]) (none)) (bB (A.lt (ZaL (AV.toS (A.nthA x0 (A.nat 1))) 13) 0) (F (AV.tup [AV.agg (Row.gen [.int .i64 0, .int .i64 0]),AV.int .i64 7]) (none)) (bB (A.not (A.eq (evE n1 (ZaL (AV.toS (A.nthA x0 (A.nat 1))) 13)) 0)) (F (AV.tup [AV.agg (Row.gen [.int .i64 0, .int .i64 0]),AV.int .i64 (evE n1 (ZaL (AV.toS (A.nthA x0 (A.nat 1))) 13))]) (none)) (F (AV.tup [AV.agg (Row.gen [.int .i64 n1, .int .i64 (ZaL (AV.toS (A.nthA x0 (A.nat 1))) 13)]),AV.int .i64 0]) (none)))))))))))) (F (AV.tup [AV.agg (Row.gen [.int .i64 0, .int .i64 0]),AV.int .i64 7]) (none))
theorem Zhk{A:Ar}{K:KT}{F:FT}{M:MT}{x0:List AV}{n1:Int} :ZaE A tab Ls2 57 K F M (.run 7 (.tf (.run 7 (.tf (.run 8 (.hd)) (.run 15 (.tf (.ty (.ty (.ty (.run 1 (.tf (.ty (.ty (.run 3 (.ty (.ty (.run 2 (.ty (.run 7 (.fn))))))))) (.fy (.fy (.fy (.fy (.fy (.alt [false,false] (.fy (.run 2 (.fy (.run 7 (.fy (.run 13 (.tf (.run 8 (.fn)) (.run 8 (.fn))))))))) (.no)))))))))))) (.fy (.fy (.fy (.run 1 (.fy (.fy (.fy (.ty (.ty (.ty (.alt [false,true] (.fy (.run 2 (.tf (.run 7 (.fn)) (.run 7 (.ty (.run 19 (.tf (.ty (.ty (.run 1 (.ty (.run 7 (.fn)))))) (.fy (.fy (.run 1 (.tf (.run 7 (.fn)) (.run 18 (.tf (.run 8 (.fn)) (.run 8 (.fn))))))))))))))) (.no)))))))))))))))) (.run 8 (.fn)))) (ZfE x0 n1) (Zer x0 n1)=Zb1 A K F x0 n1:=by kernel_rfl
def ZtA(a b c:Int):AFrame:={ fn:=58,N:=18,env:=[(0,AV.agg (Row.gen [.int .i64 a, .int .i64 b, .int .i64 c]))],todo:=[.code a58.code],defs:=[],rnd:=none,ret:=false,res:=[ARes.tmp 2] }
def ZDk(a b c:Int):List AFrame:=[(ZtA a b c)]
theorem ZrL(a b c:Int):Zaz tab 58 [AV.agg (Row.gen [.int .i64 a, .int .i64 b, .int .i64 c])]=some (ZtA a b c):=rfl
def Zwo(A:Ar)(K:KT)(F:FT)(a b c:Int):Prop:=rB [Nat.ble (A.lenS (A.appS (A.appS (A.appS (Go.Lib.itoa a) [32]) (Go.Lib.itoa b)) [32])+A.lenS (Go.Lib.itoa c)) 4294967296,decide (Zbx c=true),Nat.ble (A.lenS (A.appS (A.appS (Go.Lib.itoa a) [32]) (Go.Lib.itoa b))+A.lenS [32]) 4294967296,Nat.ble (A.lenS (A.appS (Go.Lib.itoa a) [32])+A.lenS (Go.Lib.itoa b)) 4294967296,decide (Zbx b=true),Nat.ble (A.lenS (Go.Lib.itoa a)+A.lenS [32]) 4294967296,decide (Zbx a=true)] (F (AV.str (A.appS (A.appS (A.appS (A.appS (Go.Lib.itoa a) [32]) (Go.Lib.itoa b)) [32]) (Go.Lib.itoa c))) (none))
theorem Zx4{A:Ar}{K:KT}{F:FT}{M:MT}{a b c:Int} :ZaE A tab Ls2 58 K F M (.run 9 (.fn)) (ZDk a b c) []=Zwo A K F a b c:=by kernel_rfl
def ZvY(ek en:Int):AFrame:={ fn:=59,N:=26,env:=[(0,AV.agg (Row.gen [.int .i64 ek, .int .i64 en]))],todo:=[.code a59.code],defs:=[],rnd:=none,ret:=false,res:=[ARes.tmp 2] }
def ZBj(ek en:Int):List AFrame:=[(ZvY ek en)]
theorem Zqp(ek en:Int):Zaz tab 59 [AV.agg (Row.gen [.int .i64 ek, .int .i64 en])]=some (ZvY ek en):=rfl
def Zpp(A:Ar)(K:KT)(F:FT)(ek en:Int):Prop:=bB (A.not (Zae ek 0 8)) (F (AV.str []) (none)) (bB (A.not (Zbn ek)) (rB [Zah (Nat.blt (A.nat ek) (A.lenA wordsE)) true,Zah (A.le 0 ek) (Nat.blt (A.nat ek) (A.lenA wordsE))] (F (AV.str (AV.toS (A.nthA wordsE (A.nat ek)))) (none))) (rB [Nat.ble (A.lenS (A.appS (AV.toS (A.nthA wordsE (A.nat ek))) [32])+A.lenS (Go.Lib.itoa en)) 4294967296,decide (Zbx en=true),Nat.ble (A.lenS (AV.toS (A.nthA wordsE (A.nat ek)))+A.lenS [32]) 4294967296,Zah (Nat.blt (A.nat ek) (A.lenA wordsE)) true,Zah (A.le 0 ek) (Nat.blt (A.nat ek) (A.lenA wordsE))] (F (AV.str (A.appS (A.appS (AV.toS (A.nthA wordsE (A.nat ek))) [32]) (Go.Lib.itoa en))) (none))))
theorem ZxQ{A:Ar}{K:KT}{F:FT}{M:MT}{ek en:Int} :ZaE A tab Ls2 59 K F M (.run 13 (.tf (.run 5 (.fn)) (.run 9 (.tf (.run 3 (.fn)) (.run 5 (.fn)))))) (ZBj ek en) []=Zpp A K F ek en:=by kernel_rfl
end Go.Proofs.YtkeoeooghhjibaaGreatDoor
