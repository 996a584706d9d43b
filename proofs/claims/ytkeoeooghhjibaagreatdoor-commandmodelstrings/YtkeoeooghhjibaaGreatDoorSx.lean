/- Contracts as a list. No condition. -/
import Derived.Test.YtkeoeooghhjibaaGreatDoorSp
import Derived.Lib.Join
import Derived.Lib.ItoaLen
import Derived.KernelRfl
namespace Go.Proofs.YtkeoeooghhjibaaGreatDoor
theorem Zjo(p:List UInt8)(B:Nat):∀r:List (List UInt8),(∀x∈r,x.length≤B)→(Lib.joinTail p r).length≤r.length*(B+p.length)
 |[],_=>by simp[Lib.joinTail]
 |x::r,h=>by
  have ih:=Zjo p B r fun y hy=>h y (List.mem_cons_of_mem _ hy)
  have hx:=h x List.mem_cons_self
  simp only[Lib.joinTail,List.map_cons,List.flatten_cons,List.length_append,List.length_cons]at ih⊢
  rw[Nat.add_mul];omega
theorem ZlI(p:List UInt8)(B:Nat)(xs:List (List UInt8))(h:∀x∈xs,x.length≤B):(Lib.join xs p).length≤xs.length*(B+p.length):=by
 cases xs with
 |nil=>simp[Lib.join_nil]
 |cons x r=>
  have ih:=Zjo p B r fun y hy=>h y (List.mem_cons_of_mem _ hy)
  have hx:=h x List.mem_cons_self
  rw[Lib.join_cons,List.length_append,List.length_cons,Nat.add_mul];omega
def Za3(xs:List Int):List UInt8:=Lib.join (xs.map Lib.itoa) [32]
theorem ZaA{α:Type}{xs:List α}{k:Nat}{d:α}(h:k<xs.length):xs.take (k+1)=xs.take k++[xs.getD k d]:=by
 rw[List.take_add_one,List.getElem?_eq_getElem h,List.getD_eq_getElem?_getD,List.getElem?_eq_getElem h];rfl
theorem ZaC{α:Type}{xs:List α}{n:Nat}{d:α}(h:n<xs.length):xs.getD n d∈xs:=by
 rw[List.getD_eq_getElem?_getD,List.getElem?_eq_getElem h];exact List.getElem_mem h
def Zb7(xs:List Int):Bool:=decide (xs.length≤8)&&xs.all Zfa
section
variable {C:Ctx}(hC:C.P=Tryz.prog)
include hC
theorem Zvr(xs:List Int)(hg:Zb7 xs=true):∀m k:Nat,k+m=xs.length→Ev C (Zfe xs xs.length k ((xs.take k).map fun n=>AV.str (Lib.itoa n))) (Zd8 xs xs.length k ((xs.take k).map fun n=>AV.str (Lib.itoa n))) (ZbH 105 (.str (Za3 xs)) none)
 |0,k,hk=>tgo hC Zcf ZhY (by
  obtain rfl:k=xs.length:=by omega
  simp only[Zb7,Bool.and_eq_true,decide_eq_true_eq,List.all_eq_true]at hg
  have hj:(Lib.join (xs.map Lib.itoa) [32]).length≤1000000:=by
   have:=ZlI [32] 21 (xs.map Lib.itoa) (fun x hx=>by
    obtain⟨n,hn,rfl⟩:=List.mem_map.1 hx
    have:=i64B_iff.1 (hg.2 n hn)
    exact Lib.itoa_length_le n this.1 this.2)
   rw[List.length_map]at this
   have h8:=hg.1
   have:(Lib.join (xs.map Lib.itoa) [32]).length≤8*22:=Nat.le_trans this (Nat.mul_le_mul_right _ h8)
   omega
  have e:List.map (AV.toS∘fun n=>AV.str (Lib.itoa n)) xs=xs.map Lib.itoa:=by simp[Function.comp_def,AV.toS]
  simp[Zes,e,hj,Za3]
  omega)
 |m+1,k,hk=>by
  have ih:=Zvr xs hg m (k+1) (by omega)
  have hlt:(k:Int)<xs.length:=by omega
  have hlt2:k<xs.length:=by omega
  rw[ZaA (d:=0) hlt2]at ih
  simp only[Zb7,Bool.and_eq_true,decide_eq_true_eq,List.all_eq_true]at hg
  have hi:Zfa (xs.getD k 0)=true:=hg.2 _ (ZaC hlt2)
  refine tgo hC Zcf ZhY ?_
  simp[-List.getD_eq_getElem?_getD,Zes,hlt,hlt2,hi,AV.bx,Zab]
  exact⟨by omega,by simpa[-List.getD_eq_getElem?_getD]using ih⟩
theorem ZqQ(xs:List Int)(hg:Zb7 xs=true):Ev C (ZEl xs) [] (ZbH 105 (.str (Za3 xs)) none):=
 tgo hC Zcf ZD8 (by
  simp only[Zvq]
  refine tgo hC Zcf Zmn ?_
  by_cases h0:xs.length=0
  ·have:xs=[]:=List.eq_nil_of_length_eq_zero h0
   subst this
   simp[Zem,Za3,Lib.join_nil]
  ·have hlt:0<xs.length:=by omega
   have ih:=Zvr hC xs hg (xs.length-1) 1 (by omega)
   rw[ZaA (d:=0) hlt]at ih
   simp only[Zb7,Bool.and_eq_true,decide_eq_true_eq,List.all_eq_true]at hg
   have hi:Zfa (xs.getD 0 0)=true:=hg.2 _ (ZaC hlt)
   simp[-List.getD_eq_getElem?_getD,Zem,hlt,hi,AV.bx,Zab]
   simpa[-List.getD_eq_getElem?_getD]using ih)
end
theorem ZmJ(xs:List Int)(hg:Zb7 xs=true):Zat Tryz.prog 105 [.list (.ints .i64 xs)] (.str (Za3 xs)) none:=start (Zuy xs) fun _ hC=>ZqQ hC xs hg
def Zl4(s:List UInt8)(c:Int):Nat→Nat→Nat→List AV
 |0,_,f=>[.str (s.drop f)]
 |m+1,i,f=>if((s.getD i 0).toNat:Int)=c then .str ((s.drop f).take (i-f))::Zl4 s c m (i+1) (i+1)else Zl4 s c m (i+1) f
section
variable {C:Ctx}(hC:C.P=Tryz.prog)(s:List UInt8)(c:Int)(hl:s.length≤1000000)
include hC hl
theorem Zzn:∀(m i f:Nat) (L:List AV),i+m=s.length→f≤i→L.length≤i→Ev C (Zft s c f i L) (ZdS s c f i L) (ZbH 109 (.row 0 0) (some ⟨9,1, .big .str (L++Zl4 s c m i f)⟩))
 |0,i,f,L,hi,hf,hL=>tgo hC Zcf Zhw (by
  obtain rfl:i=s.length:=by omega
  have e:(s.drop f).take (s.length-f)=s.drop f:=List.take_of_length_le (by simp)
  simp[-List.getD_eq_getElem?_getD,ZcC,sub3,Zl4,AV.bx,Zab,e]
  omega)
 |m+1,i,f,L,hi,hf,hL=>by
  have hlt:(i:Int)<s.length:=by omega
  have hlt2:i<s.length:=by omega
  refine tgo hC Zcf Zhw ?_
  rw[Zl4]
  by_cases hc:((s.getD i 0).toNat:Int)=c
  ·have ih:=Zzn m (i+1) (i+1) (L++[.str ((s.drop f).take (i-f))]) (by omega) (by omega) (by simp;omega)
   rw[if_pos hc]
   simp[-List.getD_eq_getElem?_getD,ZcC,sub3,hlt,hlt2,hc,AV.bx,Zab]
   exact⟨by omega,by simpa using ih⟩
  ·have ih:=Zzn m (i+1) f L (by omega) (by omega) (by omega)
   rw[if_neg hc]
   simp[-List.getD_eq_getElem?_getD,ZcC,sub3,hlt,hlt2,hc]
   exact⟨by omega,by simpa using ih⟩
theorem ZD9:∀(m i:Nat),i+m=s.length→Ev C (Zfl s c i) (Zd1 s c i) (ZbH 109 (.row 0 0) (some ⟨9,1, .big .str (Zl4 s c m i 0)⟩))
 |0,i,hi=>tgo hC Zcf Zhq (by
  obtain rfl:i=s.length:=by omega
  simp[-List.getD_eq_getElem?_getD,ZcT,sub3,Zl4,AV.bx,Zab])
 |m+1,i,hi=>by
  have hlt:(i:Int)<s.length:=by omega
  have hlt2:i<s.length:=by omega
  refine tgo hC Zcf Zhq ?_
  rw[Zl4]
  by_cases hc:((s.getD i 0).toNat:Int)=c
  ·have ih:=Zzn hC s c hl m (i+1) (i+1) [.str ((s.drop 0).take (i-0))] (by omega) (by omega) (by simp)
   rw[if_pos hc]
   simp[-List.getD_eq_getElem?_getD,ZcT,sub3,hlt,hlt2,hc,AV.bx,Zab]
   exact⟨by omega,by simpa using ih⟩
  ·have ih:=ZD9 m (i+1) (by omega)
   rw[if_neg hc]
   simp[-List.getD_eq_getElem?_getD,ZcT,sub3,hlt,hlt2,hc]
   exact⟨by omega,by simpa using ih⟩
end
def Zay(s:List UInt8)(c:Int):List AV:=Zl4 s c s.length 0 0
theorem ZrV(s:List UInt8)(c:Int)(hl:s.length≤1000000):Zat Tryz.prog 109 [.str s, .int .u8 c] (.row 0 0) (some ⟨9,1, .big .str (Zay s c)⟩):=
 start (ZuE s c) fun _ hC=>tgo hC Zcf ZDO (by
  have:=ZD9 hC s c hl s.length 0 (by omega)
  simp only[Zve]
  simpa[Zay]using this)
def Zl5(s:List UInt8):Nat→Nat→Int→Option Int
 |0,_,n=>some n
 |m+1,i,n=>if((s.getD i 0).toNat:Int)<48∨57<((s.getD i 0).toNat:Int)then none else Zl5 s m (i+1) (10*n+(((s.getD i 0).toNat:Int)-48))
def Zdh(s:List UInt8):Nat:=if 0<s.length∧(s.getD 0 0).toNat=45 then 1 else 0
def Zm4(s:List UInt8)(d:Int):Bool:=decide (s.length≠Zdh s∧(s.length:Int)-Zdh s≤d∧¬((s.getD (Zdh s) 0).toNat=48∧1<s.length))
def Ze0(s:List UInt8)(d:Int):Option Int:=if Zm4 s d=true then(Zl5 s (s.length-Zdh s) (Zdh s) 0).map fun n=>if Zdh s=1 then -n else n else none
def Zrc(o:Option Int):AV:=.tup [.int .i64 (o.getD 0), .bool o.isSome]
theorem Zud(k:Nat)(n x:Int)(h:0≤n∧n<10^k)(hx:0≤x∧x≤9):0≤10*n+x∧10*n+x<10^(k+1):=by
 have:(10:Int)^(k+1)=10*10^k:=by rw[Int.pow_succ];omega
 omega
theorem ZAK{k:Nat}(h:k≤18):(10:Int)^k≤1000000000000000000:=by
 have:∀j,j≤18→(10:Int)^j≤1000000000000000000:=by decide
 exact this k h
section
variable {C:Ctx}(hC:C.P=Tryz.prog)(s:List UInt8)(a:Nat)(ha:a≤1)(hl:s.length≤18+a)
include hC ha hl
theorem Zlo:∀(m i:Nat) (n:Int),i+m=s.length→a≤i→(0≤n∧n<10^(i-a))→Ev C (Zfb s a i n) (Zeq s a i n) (ZbH 110 (Zrc ((Zl5 s m i n).map fun n=>if a=1 then -n else n)) none)
 |0,i,n,hi,hai,hn=>tgo hC Zcf Zh0 (by
  have hp:=ZAK (k:=i-a) (by omega)
  by_cases h1:a=1
  ·subst h1
   simp[Zbz,show ¬(i:Int)<s.length by omega,Zl5,Zrc]
   omega
  ·have h0:a=0:=by omega
   subst h0
   simp[Zbz,show ¬(i:Int)<s.length by omega,Zl5,Zrc])
 |m+1,i,n,hi,hai,hn=>by
  have hlt:(i:Int)<s.length:=by omega
  have hlt2:i<s.length:=by omega
  refine tgo hC Zcf Zh0 ?_
  rw[Zl5]
  have hu:(s.getD i 0).toNat<256:=(s.getD i 0).toNat_lt
  by_cases h1:((s.getD i 0).toNat:Int)<48
  ·rw[if_pos (.inl h1)]
   simp[-List.getD_eq_getElem?_getD,Zbz,hlt,hlt2,h1,Zrc]
  ·by_cases h2:57<((s.getD i 0).toNat:Int)
   ·rw[if_pos (.inr h2)]
    simp[-List.getD_eq_getElem?_getD,Zbz,hlt,hlt2,h1,h2,Zrc]
   ·rw[if_neg (by omega)]
    have hs:=Zud (i-a) n (((s.getD i 0).toNat:Int)-48) hn (by omega)
    have hp:=ZAK (k:=i-a+1) (by omega)
    have ih:=Zlo m (i+1) (10*n+(((s.getD i 0).toNat:Int)-48)) (by omega) (by omega) (by rw[show i+1-a=i-a+1 by omega];exact hs)
    have hu8:std.inR .u8 (((s.getD i 0).toNat:Int)-48)=true:=decide_eq_true ⟨by show(0:Int)≤_;omega,by show _≤(255:Int);omega⟩
    simp[-List.getD_eq_getElem?_getD,Zbz,hlt,hlt2,h1,h2,hu8]
    exact⟨by omega,by simpa[-List.getD_eq_getElem?_getD]using ih⟩
end
theorem Zme(s:List UInt8)(d:Int)(h:d≤18∧s.length≤1000000):Zat Tryz.prog 110 [.str s, .int .i64 d] (Zrc (Ze0 s d)) none:=
 start (ZuR s d) fun C hC=>tgo hC Zcf ZDX (by
  unfold Zwb
  by_cases h0:s.length=0
  ·have ho:Ze0 s d=none:=by unfold Ze0;rw[if_neg (by simp[Zm4,Zdh,h0])]
   rw[ho]
   simp[h0,Zrc]
  ·have hp:(0:Int)<s.length:=by omega
   have hp2:0<s.length:=by omega
   by_cases h45:(s.getD 0 0).toNat=45
   ·have hat:Zdh s=1:=by unfold Zdh;rw[if_pos ⟨hp2,h45⟩]
    by_cases h1:s.length=1
    ·have ho:Ze0 s d=none:=by unfold Ze0;rw[if_neg (by simp[Zm4,hat,h1])]
     rw[ho]
     simp[-List.getD_eq_getElem?_getD,hp,hp2,h45,h1,Zrc]
    ·have h1i:¬(s.length:Int)=1:=by omega
     have h1l:(1:Int)<s.length:=by omega
     have h1n:1<s.length:=by omega
     by_cases h2:d<(s.length:Int)-1
     ·have ho:Ze0 s d=none:=by unfold Ze0;rw[if_neg (by simp[Zm4,hat];omega)]
      rw[ho]
      simp[-List.getD_eq_getElem?_getD,hp,hp2,h45,h1,h1i,h2,Zrc]
      omega
     ·by_cases h3:(s.getD 1 0).toNat=48
      ·have ho:Ze0 s d=none:=by unfold Ze0;rw[if_neg (by simp[-List.getD_eq_getElem?_getD,Zm4,hat,h3,h1n])]
       rw[ho]
       simp[-List.getD_eq_getElem?_getD,hp,hp2,h45,h1,h1i,h1l,h1n,h2,h3,Zrc]
       omega
      ·have h3i:¬((s.getD 1 0).toNat:Int)=48:=by omega
       have ho:Ze0 s d=(Zl5 s (s.length-1) 1 0).map fun n=>if(1:Nat)=1 then -n else n:=by
        unfold Ze0;rw[if_pos (by simp[-List.getD_eq_getElem?_getD,Zm4,hat,h3];omega),hat]
       have ih:=Zlo hC s 1 (by omega) (by omega) (s.length-1) 1 0 (by omega) (by omega) (by decide)
       rw[ho]
       simp[-List.getD_eq_getElem?_getD,hp,hp2,h45,h1,h1i,h1l,h1n,h2,h3i]
       exact⟨by omega,by simpa[-List.getD_eq_getElem?_getD]using ih⟩
   ·have hat:Zdh s=0:=by unfold Zdh;rw[if_neg (fun hh=>h45 hh.2)]
    have h45i:¬((s.getD 0 0).toNat:Int)=45:=by omega
    have h0i:¬(s.length:Int)=0:=by omega
    by_cases h2:d<(s.length:Int)
    ·have ho:Ze0 s d=none:=by unfold Ze0;rw[if_neg (by simp[Zm4,hat];omega)]
     rw[ho]
     simp[-List.getD_eq_getElem?_getD,hp,hp2,h45i,h0,h0i,h2,Zrc]
     omega
    ·have loop:(Zm4 s d=true)→Ze0 s d=(Zl5 s s.length 0 0).map fun n=>if(0:Nat)=1 then -n else n:=fun hg=>by
      unfold Ze0;rw[if_pos hg,hat];rfl
     have ih:=Zlo hC s 0 (by omega) (by omega) s.length 0 0 (by omega) (by omega) (by decide)
     by_cases h3:(s.getD 0 0).toNat=48
     ·by_cases h4:1<s.length
      ·have ho:Ze0 s d=none:=by unfold Ze0;rw[if_neg (by simp[-List.getD_eq_getElem?_getD,Zm4,hat,h3,h4])]
       rw[ho]
       simp[-List.getD_eq_getElem?_getD,hp,hp2,h45i,h0,h0i,h2,h3,h4,show(1:Int)<s.length by omega,Zrc]
       omega
      ·rw[loop (by simp[-List.getD_eq_getElem?_getD,Zm4,hat,h3,h4,h0];omega)]
       simp[-List.getD_eq_getElem?_getD,hp,hp2,h45i,h0,h0i,h2,h3,h4,show ¬(1:Int)<s.length by omega]
       exact⟨by omega,by simpa[-List.getD_eq_getElem?_getD]using ih⟩
     ·have h3i:¬((s.getD 0 0).toNat:Int)=48:=by omega
      rw[loop (by simp[-List.getD_eq_getElem?_getD,Zm4,hat,h3,h0];omega)]
      simp[-List.getD_eq_getElem?_getD,hp,hp2,h45i,h0,h0i,h2,h3i]
      exact⟨by omega,by simpa[-List.getD_eq_getElem?_getD]using ih⟩)
def ZbO(s:List UInt8)(d:Int):Int:=(Ze0 s d).getD 0
def Zh3(s:List UInt8)(d:Int):Bool:=(Ze0 s d).isSome
theorem Zn6(s:List UInt8)(d:Int)(h:d≤18∧s.length≤1000000):Zat Tryz.prog 110 [.str s, .int .i64 d] (.tup [.int .i64 (ZbO s d), .bool (Zh3 s d)]) none:=Zme s d h
def k105:Ctr:=⟨105,0,fun _ a=>match a with |[.list (.ints .i64 xs)]=>some (decide (Zb7 xs=true), .str (Za3 xs),none) |_=>none⟩
theorem ZzC:k105.OK Tryz.prog:=fun pa args r fr h=>by
 simp only[k105]at h
 split at h
 ·simp only[Option.some.injEq,Prod.mk.injEq,decide_eq_true_eq]at h
  obtain⟨h0,rfl,rfl⟩:=h
  exact ZmJ _ h0
 ·cases h
def k109:Ctr:=⟨109,0,fun _ a=>match a with |[.str s, .int .u8 c]=>some (decide (s.length≤1000000), .row 0 0,some ⟨9,1, .big .str (Zay s c)⟩) |_=>none⟩
theorem Zyw:k109.OK Tryz.prog:=fun pa args r fr h=>by
 simp only[k109]at h
 split at h
 ·simp only[Option.some.injEq,Prod.mk.injEq,decide_eq_true_eq]at h
  obtain⟨h0,rfl,rfl⟩:=h
  exact ZrV _ _ h0
 ·cases h
def k110:Ctr:=⟨110,0,fun _ a=>match a with |[.str s, .int .i64 d]=>some (decide (d≤18∧s.length≤1000000), .tup [.int .i64 (ZbO s d), .bool (Zh3 s d)],none) |_=>none⟩
theorem ZxM:k110.OK Tryz.prog:=fun pa args r fr h=>by
 simp only[k110]at h
 split at h
 ·simp only[Option.some.injEq,Prod.mk.injEq,decide_eq_true_eq]at h
  obtain⟨h0,rfl,rfl⟩:=h
  exact Zn6 _ _ h0
 ·cases h
def Ls1:List Ctr:=[k105,k109,k110]++Ls0
theorem ZBa:Zaw Tryz.prog Ls1:=⟨ZzC,⟨Zyw,⟨ZxM,Zcf⟩⟩⟩
end Go.Proofs.YtkeoeooghhjibaaGreatDoor
/- Paths of functions, printed by the explorer (Gx). No condition. -/
namespace Go.Proofs.YtkeoeooghhjibaaGreatDoor
set_option maxRecDepth 100000
set_option linter.unusedVariables false
def ZvL(n:Int):AFrame:={ fn:=112,N:=27,env:=[(0,AV.int .i64 n)],todo:=[.code a112.code],defs:=[],rnd:=none,ret:=false,res:=[ARes.tmp 2] }
def ZFy(n:Int):List AFrame:=[(ZvL n)]
theorem Ztx(n:Int):ZaB tab 112 [AV.int .i64 n]=some (ZvL n):=rfl
def Zfk(l0:List UInt8)(n1:Int)(l2:List UInt8):List AFrame:=[{ fn:=112,N:=27,env:=[(0,AV.int .i64 n1),(3,AV.str l2),(4,AV.str l0)],todo:=.code (ACode.gh [] Zwk)::ZCR,defs:=[],rnd:=none,ret:=false,res:=[ARes.tmp 2] }]
def ZdY(l0:List UInt8)(n1:Int)(l2:List UInt8):Zaa:=[]
abbrev Zd5(l0:List UInt8)(n1:Int)(l2:List UInt8):List AFrame×Zaa:=(Zfk l0 n1 l2,ZdY l0 n1 l2)
def Zv0(A:Ar)(K:KT)(F:FT)(n:Int):Prop:=bB (A.eq n 0) (F (AV.str [48]) (none)) (bB (A.lt n 0) (K (Zd5 ([45]) (n) ([]))) (K (Zd5 ([]) (n) ([]))))
theorem ZCd{A:Ar}{K:KT}{F:FT}{M:MT}{n:Int} :ZaG A tab Ls0 112 K F M (.run 10 (.tf (.run 5 (.fn)) (.run 12 (.tf (.run 7 (.hd)) (.run 5 (.hd)))))) (ZFy n) []=Zv0 A K F n:=by kernel_rfl
def ZcL(A:Ar)(K:KT)(F:FT)(l0:List UInt8)(n1:Int)(l2:List UInt8):Prop:=bB (A.not (A.eq n1 0)) (rB [Zae (A.not (A.eq 10 0)) (A.inR .i64 (A.quo n1 10)),Nat.ble (A.lenS [UInt8.ofNat (A.nat (A.add 48 (A.max (A.rem n1 10) (A.neg (A.rem n1 10)))))]+A.lenS l2) 4294967296,List.all [AV.int .u8 (A.add 48 (A.max (A.rem n1 10) (A.neg (A.rem n1 10))))] fun x=>AV.bx x&&Nat.beq (Zab A x) 1,A.inR .u8 (A.add 48 (A.max (A.rem n1 10) (A.neg (A.rem n1 10)))),A.inR .i64 (A.add 48 (A.max (A.rem n1 10) (A.neg (A.rem n1 10)))),A.inR .i64 (A.neg (A.rem n1 10)),A.not (A.eq 10 0)] (K (Zd5 (l0) (A.quo n1 10) (A.appS [UInt8.ofNat (A.nat (A.add 48 (A.max (A.rem n1 10) (A.neg (A.rem n1 10)))))] l2)))) (rB [Nat.ble (A.lenS l0+A.lenS l2) 4294967296] (F (AV.str (A.appS l0 l2)) (none)))
theorem Zh1{A:Ar}{K:KT}{F:FT}{M:MT}{l0:List UInt8}{n1:Int}{l2:List UInt8} :ZaG A tab Ls0 112 K F M (.run 7 (.tf (.run 43 (.hd)) (.run 9 (.fn)))) (Zfk l0 n1 l2) (ZdY l0 n1 l2)=ZcL A K F l0 n1 l2:=by kernel_rfl
end Go.Proofs.YtkeoeooghhjibaaGreatDoor
/- Contracts as a list. No condition. -/
namespace Go.Proofs.YtkeoeooghhjibaaGreatDoor
theorem ZDY(n:Int):(Int.tdiv n 10).natAbs=n.natAbs/10:=by
 rw[Int.natAbs_tdiv];rfl
theorem ZAx(n:Int):max (Int.tmod n 10) (-(Int.tmod n 10))=((n.natAbs%10:Nat):Int):=by
 have h1:(Int.tmod n 10).natAbs=n.natAbs%10:=by rw[Int.natAbs_tmod];rfl
 omega
def Ztf(u:Nat):List UInt8:=if u=0 then []else Lib.decDigits u
theorem Zrt(u:Nat)(h:u≠0):Ztf u=Ztf (u/10)++[UInt8.ofNat (48+u%10)]:=by
 unfold Ztf
 rw[if_neg h,Lib.decDigits]
 by_cases h1:u<10
 ·rw[dif_pos h1,if_pos (by omega),show u%10=u by omega];rfl
 ·rw[dif_neg h1,if_neg (by omega)]
section
variable {C:Ctx}(hC:C.P=Tryz.prog)(l0:List UInt8)(h0:l0.length≤1)
include hC h0
theorem Zlp:∀(k:Nat) (n:Int) (l2:List UInt8),n.natAbs<10^k→l2.length+k≤40→(-9223372036854775808≤n∧n≤9223372036854775807)→Ev C (Zfk l0 n l2) (ZdY l0 n l2) (ZbH 112 (.str (l0++(Ztf n.natAbs++l2))) none)
 |0,n,l2,hk,hl,hn=>tgo hC Zcf Zh1 (by
  obtain rfl:n=0:=by
   simp at hk;exact hk
  simp[ZcL,Ztf]
  omega)
 |k+1,n,l2,hk,hl,hn=>by
  refine tgo hC Zcf Zh1 ?_
  by_cases hz:n=0
  ·subst hz
   simp[ZcL,Ztf]
   omega
  ·have e1:=ZDY n
   have e2:=ZAx n
   have hq:(Int.tdiv n 10).natAbs<10^k:=by
    rw[e1]
    have:(10:Nat)^(k+1)=10^k*10:=Nat.pow_succ ..
    omega
   have ih:=Zlp k (Int.tdiv n 10) ([UInt8.ofNat (48+n.natAbs%10)]++l2) hq (by simp;omega) (by omega)
   rw[e1]at ih
   rw[Zrt n.natAbs (by omega)]
   have hm:n.natAbs%10<10:=Nat.mod_lt _ (by decide)
   have e3:(48+max (Int.tmod n 10) (-(Int.tmod n 10))).toNat=48+n.natAbs%10:=by rw[e2];omega
   have hu8:std.inR .u8 (48+max (Int.tmod n 10) (-(Int.tmod n 10)))=true:=decide_eq_true ⟨by show(0:Int)≤_;omega,by show _≤(255:Int);omega⟩
   simp[ZcL,hz,hu8,e3,AV.bx,Zab]
   refine⟨by omega,?_⟩
   simpa using ih
end
theorem Zlt(n:Int)(h:Zfa n=true):Zat Tryz.prog 112 [.int .i64 n] (.str (Lib.itoa n)) none:=
 start (Ztx n) fun C hC=>tgo hC Zcf ZCd (by
  have hn:=i64B_iff.1 h
  unfold Zv0
  have hb:n.natAbs<10^20:=by
   have:(10:Nat)^20=100000000000000000000:=by decide
   omega
  by_cases hz:n=0
  ·subst hz
   have:Lib.itoa 0=[48]:=by unfold Lib.itoa;rw[if_neg (by decide),Lib.decDigits];rfl
   simp[this]
  ·by_cases hneg:n<0
   ·have ih:=Zlp hC [45] (by simp) 20 n [] hb (by simp) hn
    have e:Lib.itoa n=[45]++(Ztf n.natAbs++[]):=by
     unfold Lib.itoa Ztf
     rw[if_pos hneg,if_neg (by omega)];simp
    rw[e]
    simp[hz,hneg]
    simpa using ih
   ·have ih:=Zlp hC [] (by simp) 20 n [] hb (by simp) hn
    have e:Lib.itoa n=[]++(Ztf n.natAbs++[]):=by
     unfold Lib.itoa Ztf
     rw[if_neg hneg,if_neg (by omega)]
     simp
     congr 1
     omega
    rw[e]
    simp[hz,hneg]
    simpa using ih)
def k112:Ctr:=⟨112,0,fun _ a=>match a with |[.int .i64 n]=>some (decide (Zfa n=true), .str (Lib.itoa n),none) |_=>none⟩
theorem Zzt:k112.OK Tryz.prog:=fun pa args r fr h=>by
 simp only[k112]at h
 split at h
 ·simp only[Option.some.injEq,Prod.mk.injEq,decide_eq_true_eq]at h
  obtain⟨h0,rfl,rfl⟩:=h
  exact Zlt _ h0
 ·cases h
def Ls2:List Ctr:=[k112]++Ls1
theorem Za8:Zaw Tryz.prog Ls2:=⟨Zzt,ZBa⟩
end Go.Proofs.YtkeoeooghhjibaaGreatDoor
/- Contracts as a list. No condition. -/
namespace Go.Proofs.YtkeoeooghhjibaaGreatDoor
open Go.RowKit (Below)
def ixS(s p:List UInt8):Int:=Lib.index s p
theorem ZnQ(s p:List UInt8)(h:s.length≤1000000):Zat Tryz.prog 170 [.str s, .str p] (.int .i64 (ixS s p)) none:=by
 intro w okA L vs hargs _ hG
 obtain⟨x,y,rfl,hx,hy⟩:=Zid hargs
 obtain rfl:=Zfx hx
 obtain rfl:=Zfx hy
 obtain⟨m,hm⟩:=hG.1.len
 refine(Any.strings_Index (ρ:=Ze1) { ZkG with } ⟨s.toArray⟩ ⟨p.toArray⟩ m w (by show s.toArray.size<_;simp;omega) hm).mono ?_
 rintro e w' ⟨rfl,rfl⟩
 refine⟨_,L,rfl,Below.refl _ _,ZfO (Below.refl _ _) hG,?_⟩
 have:Lib.index (⟨s.toArray⟩:ByteArray).data.toList (⟨p.toArray⟩:ByteArray).data.toList=ixS s p:=by simp[ixS]
 rw[this]
 exact .int _ _
attribute [irreducible] ixS
def k170:Ctr:=⟨170,0,fun _ a=>match a with |[.str s, .str p]=>some (decide (s.length≤1000000), .int .i64 (ixS s p),none) |_=>none⟩
theorem ZxJ:k170.OK Tryz.prog:=fun pa args r fr h=>by
 simp only[k170]at h
 split at h
 ·simp only[Option.some.injEq,Prod.mk.injEq,decide_eq_true_eq]at h
  obtain⟨h0,rfl,rfl⟩:=h
  exact ZnQ _ _ h0
 ·cases h
def Lt0:List Ctr:=[k170]++Ls2
theorem ZAM:Zaw Tryz.prog Lt0:=⟨ZxJ,Za8⟩
end Go.Proofs.YtkeoeooghhjibaaGreatDoor
/- Contracts as a list. No condition. -/
namespace Go.Proofs.YtkeoeooghhjibaaGreatDoor
theorem ZEA(ms ks:List AV)(h:ZaI ms ks []=true):Zat Tryz.prog 88 [.agg (.gen [.list (.big .str ms), .list (.big (.agg [.str, .int .i64]) ks), .nils])] (.int .i64 (Zaj ms ks [])) none:=
 Zjd (ZpF ms ks [] h) ⟨Wk.agg' ⟨.same _, .same _, .nil _ rfl,trivial⟩,trivial⟩
theorem ZEu(ms ks:List AV)(h:ZaI ms ks []=true):Zat Tryz.prog 65 [.agg (.gen [.list (.big .str ms), .list (.big (.agg [.str, .int .i64]) ks), .nils])] (.int .i64 (Zaj ms ks [])) none:=
 Zjd (Zpk ms ks [] h) ⟨Wk.agg' ⟨.same _, .same _, .nil _ rfl,trivial⟩,trivial⟩
def k88z:Ctr:=⟨88,0,fun _ a=>match a with |[.agg (.gen [.list (.big .str ms), .list (.big (.agg [.str, .int .i64]) ks), .nils])]=>some (decide (ZaI ms ks []=true), .int .i64 (Zaj ms ks []),none) |_=>none⟩
theorem ZxP:k88z.OK Tryz.prog:=fun pa args r fr h=>by
 simp only[k88z]at h
 split at h
 ·simp only[Option.some.injEq,Prod.mk.injEq,decide_eq_true_eq]at h
  obtain⟨h0,rfl,rfl⟩:=h
  exact ZEA _ _ h0
 ·cases h
def k65z:Ctr:=⟨65,0,fun _ a=>match a with |[.agg (.gen [.list (.big .str ms), .list (.big (.agg [.str, .int .i64]) ks), .nils])]=>some (decide (ZaI ms ks []=true), .int .i64 (Zaj ms ks []),none) |_=>none⟩
theorem Zx5:k65z.OK Tryz.prog:=fun pa args r fr h=>by
 simp only[k65z]at h
 split at h
 ·simp only[Option.some.injEq,Prod.mk.injEq,decide_eq_true_eq]at h
  obtain⟨h0,rfl,rfl⟩:=h
  exact ZEu _ _ h0
 ·cases h
def Lt1:List Ctr:=[k88z,k65z]++Lt0
theorem Ze2:Zaw Tryz.prog Lt1:=⟨ZxP,⟨Zx5,ZAM⟩⟩
end Go.Proofs.YtkeoeooghhjibaaGreatDoor
/- Paths of functions, printed by the explorer (Gx). No condition. -/
namespace Go.Proofs.YtkeoeooghhjibaaGreatDoor
set_option maxRecDepth 100000
set_option linter.unusedVariables false
def Zu6(ws:List AV)(b:List UInt8):AFrame:={ fn:=117,N:=25,env:=[(0,AV.list (Row.big .str ws)),(1,AV.str b)],todo:=[.code a117.code],defs:=[],rnd:=none,ret:=false,res:=[ARes.tmp 4] }
def ZF1(ws:List AV)(b:List UInt8):List AFrame:=[(Zu6 ws b)]
theorem Ztz(ws:List AV)(b:List UInt8):ZaB tab 117 [AV.list (Row.big .str ws),AV.str b]=some (Zu6 ws b):=rfl
def Zfw(ws:List AV)(b l0:List UInt8)(n1:Int):List AFrame:=[{ fn:=117,N:=25,env:=[(0,AV.list (Row.big .str ws)),(1,AV.str b),(5,AV.str l0),(6,AV.int .i64 n1)],todo:=.code (ACode.gh [] Zwp)::ZB1,defs:=[],rnd:=none,ret:=false,res:=[ARes.tmp 4] }]
def Zd0(ws:List AV)(b l0:List UInt8)(n1:Int):Zaa:=[]
abbrev Zed(ws:List AV)(b l0:List UInt8)(n1:Int):List AFrame×Zaa:=(Zfw ws b l0 n1,Zd0 ws b l0 n1)
def Zv3(A:Ar)(K:KT)(F:FT)(ws:List AV)(b:List UInt8):Prop:=K (Zed (ws) (b) ([]) (0))
theorem ZDr{A:Ar}{K:KT}{F:FT}{M:MT}{ws:List AV}{b:List UInt8} :ZaG A tab Ls2 117 K F M (.run 16 (.hd)) (ZF1 ws b) []=Zv3 A K F ws b:=by kernel_rfl
def Zc2(A:Ar)(K:KT)(F:FT)(ws:List AV)(b l0:List UInt8)(n1:Int):Prop:=bB (A.lt n1 (A.int (A.lenA ws))) (bB (A.lt 0 n1) (rB [A.inR .i64 (A.add n1 1),Nat.ble (A.lenS (A.appS l0 b)+A.lenS (AV.toS (A.nthA ws (A.nat n1)))) 4294967296,Zae (Zae (A.le 0 n1) (Nat.blt (A.nat n1) (A.lenA ws))) true,Nat.ble (A.lenS l0+A.lenS b) 4294967296] (K (Zed (ws) (b) (A.appS (A.appS l0 b) (AV.toS (A.nthA ws (A.nat n1)))) (A.add n1 1)))) (rB [A.inR .i64 (A.add n1 1),Nat.ble (A.lenS l0+A.lenS (AV.toS (A.nthA ws (A.nat n1)))) 4294967296,Zae (Zae (A.le 0 n1) (Nat.blt (A.nat n1) (A.lenA ws))) true] (K (Zed (ws) (b) (A.appS l0 (AV.toS (A.nthA ws (A.nat n1)))) (A.add n1 1))))) (F (AV.str l0) (none))
theorem ZhO{A:Ar}{K:KT}{F:FT}{M:MT}{ws:List AV}{b l0:List UInt8}{n1:Int} :ZaG A tab Ls2 117 K F M (.run 9 (.tf (.run 9 (.tf (.run 23 (.hd)) (.run 18 (.hd)))) (.run 7 (.fn)))) (Zfw ws b l0 n1) (Zd0 ws b l0 n1)=Zc2 A K F ws b l0 n1:=by kernel_rfl
def Zwj(s:List UInt8)(n:Int):AFrame:={ fn:=116,N:=51,env:=[(0,AV.str s),(1,AV.int .i64 n)],todo:=[.code a116.code],defs:=[],rnd:=none,ret:=false,res:=[ARes.tmp 4,ARes.tmp 5,ARes.tmp 6] }
def ZGb(s:List UInt8)(n:Int):List AFrame:=[(Zwj s n)]
theorem ZuT(s:List UInt8)(n:Int):ZaB tab 116 [AV.str s,AV.int .i64 n]=some (Zwj s n):=rfl
def Ziu(n:Int)(x0:List AV):List AFrame:=[{ fn:=116,N:=51,env:=[(1,AV.int .i64 n),(7,AV.row 116014 0),(8,AV.nils),(9,AV.int .i64 1)],todo:=.code (ACode.gh [] ZsT)::Zvy,defs:=[],rnd:=none,ret:=false,res:=[ARes.tmp 4,ARes.tmp 5,ARes.tmp 6] }]
def Zhp(n:Int)(x0:List AV):Zaa:=[(116014,{ base:=0,blks:=[Blk.row 9 1 (Row.big .str x0)] })]
abbrev ZmR(n:Int)(x0:List AV):List AFrame×Zaa:=(Ziu n x0,Zhp n x0)
def Zfs(n:Int)(x0:List AV)(n1:Int)(l2:List Int):List AFrame:=[{ fn:=116,N:=51,env:=[(1,AV.int .i64 n),(7,AV.row 116014 0),(8,AV.row 116047 0),(9,AV.int .i64 n1)],todo:=.code (ACode.gh [] ZsT)::Zvy,defs:=[],rnd:=none,ret:=false,res:=[ARes.tmp 4,ARes.tmp 5,ARes.tmp 6] }]
def Zd3(n:Int)(x0:List AV)(n1:Int)(l2:List Int):Zaa:=[(116014,{ base:=0,blks:=[Blk.row 9 1 (Row.big .str x0)] }),(116047,{ base:=0,blks:=[Blk.row 3 1 (.ints .i64 l2)] })]
abbrev ZhR(n:Int)(x0:List AV)(n1:Int)(l2:List Int):List AFrame×Zaa:=(Zfs n x0 n1 l2,Zd3 n x0 n1 l2)
def Zpj(A:Ar)(K:KT)(F:FT)(s:List UInt8)(n:Int):Prop:=rB [decide (List.length s≤1000000)] (bB (A.not (A.eq (A.int (A.lenA (Zay s 32))) n)) (F (AV.tup [AV.str [],AV.nils,AV.bool false]) (none)) (rB [Zae (A.le 0 0) (Nat.blt (A.nat 0) (A.lenA (Zay s 32)))] (rB [Zae (Nat.blt (A.nat 0) (A.lenA (Zay s 32))) true] (bB (A.eqS (AV.toS (A.nthA (Zay s 32) (A.nat 0))) []) (F (AV.tup [AV.str [],AV.nils,AV.bool false]) (none)) (K (ZmR (n) (Zay s 32)))))))
theorem ZCD{A:Ar}{K:KT}{F:FT}{M:MT}{s:List UInt8}{n:Int} :ZaG A tab Ls2 116 K F M (.run 20 (.tf (.ty (.ty (.ty (.ty (.run 2 (.ty (.run 7 (.fn)))))))) (.fy (.fy (.fy (.fy (.run 2 (.tf (.run 7 (.fn)) (.run 13 (.hd)))))))))) (ZGb s n) []=Zpj A K F s n:=by kernel_rfl
def ZcM(A:Ar)(K:KT)(F:FT)(n:Int)(x0:List AV):Prop:=bB (A.lt 1 n) (rB [decide ((7:Int)≤18∧List.length (AV.toS (A.nthA x0 (A.nat 1)))≤1000000),Zae (Nat.blt (A.nat 1) (A.lenA x0)) true,Zae (A.le 0 1) (Nat.blt (A.nat 1) (A.lenA x0))] (bB (A.not (Zh3 (AV.toS (A.nthA x0 (A.nat 1))) 7)) (F (AV.tup [AV.str [],AV.nils,AV.bool false]) (none)) (bB (A.lt (ZbO (AV.toS (A.nthA x0 (A.nat 1))) 7) (-1)) (F (AV.tup [AV.str [],AV.nils,AV.bool false]) (none)) (rB [A.inR .i64 (A.add 1 1),Zae (Nat.ble (A.len [ZbO (AV.toS (A.nthA x0 (A.nat 1))) 7]) 4294967296) (Nat.blt 0 (A.len [ZbO (AV.toS (A.nthA x0 (A.nat 1))) 7])),List.all [AV.int .i64 (ZbO (AV.toS (A.nthA x0 (A.nat 1))) 7)] fun x=>AV.bx x&&Nat.beq (Zab A x) 1] (K (ZhR (n) (x0) (A.add 1 1) ([ZbO (AV.toS (A.nthA x0 (A.nat 1))) 7]))))))) (rB [Zae (Nat.blt (A.nat 0) (A.lenA x0)) true,Zae (A.le 0 0) (Nat.blt (A.nat 0) (A.lenA x0))] (F (AV.tup [AV.str (AV.toS (A.nthA x0 (A.nat 0))),AV.nils,AV.bool true]) (none)))
theorem ZmZ{A:Ar}{K:KT}{F:FT}{M:MT}{n:Int}{x0:List AV} :ZaG A tab Ls2 116 K F M (.run 8 (.tf (.run 23 (.tf (.ty (.ty (.run 1 (.ty (.run 7 (.fn)))))) (.fy (.fy (.run 1 (.tf (.run 7 (.fn)) (.run 16 (.hd)))))))) (.run 12 (.fn)))) (Ziu n x0) (Zhp n x0)=ZcM A K F n x0:=by kernel_rfl
def Zb0(A:Ar)(K:KT)(F:FT)(n:Int)(x0:List AV)(n1:Int)(l2:List Int):Prop:=bB (A.lt n1 n) (rB [decide ((7:Int)≤18∧List.length (AV.toS (A.nthA x0 (A.nat n1)))≤1000000),Zae (Nat.blt (A.nat n1) (A.lenA x0)) true,Zae (A.le 0 n1) (Nat.blt (A.nat n1) (A.lenA x0))] (bB (A.not (Zh3 (AV.toS (A.nthA x0 (A.nat n1))) 7)) (F (AV.tup [AV.str [],AV.nils,AV.bool false]) (none)) (bB (A.lt (ZbO (AV.toS (A.nthA x0 (A.nat n1))) 7) (-1)) (F (AV.tup [AV.str [],AV.nils,AV.bool false]) (none)) (rB [A.inR .i64 (A.add n1 1),Nat.ble (A.len l2+A.len [ZbO (AV.toS (A.nthA x0 (A.nat n1))) 7]) 4294967296,List.all [AV.int .i64 (ZbO (AV.toS (A.nthA x0 (A.nat n1))) 7)] fun x=>AV.bx x&&Nat.beq (Zab A x) 1] (K (ZhR (n) (x0) (A.add n1 1) (A.app l2 [ZbO (AV.toS (A.nthA x0 (A.nat n1))) 7]))))))) (rB [Zae (Nat.blt (A.nat 0) (A.lenA x0)) true,Zae (A.le 0 0) (Nat.blt (A.nat 0) (A.lenA x0))] (F (AV.tup [AV.str (AV.toS (A.nthA x0 (A.nat 0))),AV.row 0 0,AV.bool true]) (some { e:=3,sz:=1,r:=.ints .i64 l2 })))
theorem ZhA{A:Ar}{K:KT}{F:FT}{M:MT}{n:Int}{x0:List AV}{n1:Int}{l2:List Int} :ZaG A tab Ls2 116 K F M (.run 8 (.tf (.run 23 (.tf (.ty (.ty (.run 1 (.ty (.run 7 (.fn)))))) (.fy (.fy (.run 1 (.tf (.run 7 (.fn)) (.run 16 (.hd)))))))) (.run 12 (.fn)))) (Zfs n x0 n1 l2) (Zd3 n x0 n1 l2)=Zb0 A K F n x0 n1 l2:=by kernel_rfl
def ZDh(ms ks rs:List AV):AFrame:={ fn:=60,N:=62,env:=[(0,AV.agg (Row.gen [.list (Row.big .str ms), .list (Row.big (.agg [.str, .int .i64]) ks), .list (Row.big (.agg [.str, .int .i64, .int .i64, .int .i64, .int .i64]) rs)]))],todo:=[.code a60.code],defs:=[],rnd:=none,ret:=false,res:=[ARes.tmp 2] }
def ZKo(ms ks rs:List AV):List AFrame:=[(ZDh ms ks rs)]
theorem ZwP(ms ks rs:List AV):ZaB tab 60 [AV.agg (Row.gen [.list (Row.big .str ms), .list (Row.big (.agg [.str, .int .i64]) ks), .list (Row.big (.agg [.str, .int .i64, .int .i64, .int .i64, .int .i64]) rs)])]=some (ZDh ms ks rs):=rfl
def Zi3(ms ks rs:List AV)(n0:Int):List AFrame:=[{ fn:=60,N:=62,env:=[(1,AV.ptr 60002 0 0 0),(3,AV.nils),(4,AV.nils),(10,AV.list (Row.big (.agg [.str, .int .i64]) ks)),(11,AV.int .i64 n0),(12,AV.int .i64 0)],todo:=.code (ACode.gh [] Zw1)::ZBB,defs:=[],rnd:=none,ret:=false,res:=[ARes.tmp 2] }]
def Zgq(ms ks rs:List AV)(n0:Int):Zaa:=[(60002,{ base:=0,blks:=[Blk.row 26 3 (Row.gen [AV.agg (Row.gen [AV.list (Row.big .str ms),AV.list (Row.big (.agg [.str, .int .i64]) ks),AV.list (Row.big (.agg [.str, .int .i64, .int .i64, .int .i64, .int .i64]) rs)])])] })]
abbrev ZqS(ms ks rs:List AV)(n0:Int):List AFrame×Zaa:=(Zi3 ms ks rs n0,Zgq ms ks rs n0)
def ZiT(ms ks rs:List AV)(n0 n1:Int)(x2:List AV):List AFrame:=[{ fn:=60,N:=62,env:=[(1,AV.ptr 60002 0 0 0),(3,AV.row 60027 0),(4,AV.nils),(10,AV.list (Row.big (.agg [.str, .int .i64]) ks)),(11,AV.int .i64 n0),(12,AV.int .i64 n1)],todo:=.code (ACode.gh [] Zw1)::ZBB,defs:=[],rnd:=none,ret:=false,res:=[ARes.tmp 2] }]
def ZgC(ms ks rs:List AV)(n0 n1:Int)(x2:List AV):Zaa:=[(60002,{ base:=0,blks:=[Blk.row 26 3 (Row.gen [AV.agg (Row.gen [AV.list (Row.big .str ms),AV.list (Row.big (.agg [.str, .int .i64]) ks),AV.list (Row.big (.agg [.str, .int .i64, .int .i64, .int .i64, .int .i64]) rs)])])] }),(60027,{ base:=0,blks:=[Blk.row 9 1 (Row.big .str x2)] })]
abbrev ZjW(ms ks rs:List AV)(n0 n1:Int)(x2:List AV):List AFrame×Zaa:=(ZiT ms ks rs n0 n1 x2,ZgC ms ks rs n0 n1 x2)
def ZiK(ms ks rs:List AV)(n3:Int):List AFrame:=[{ fn:=60,N:=62,env:=[(1,AV.ptr 60002 0 0 0),(3,AV.nils),(4,AV.nils),(29,AV.list (Row.big (.agg [.str, .int .i64, .int .i64, .int .i64, .int .i64]) rs)),(30,AV.int .i64 n3),(31,AV.int .i64 0)],todo:=.code (ACode.gh [] Zs8)::ZtC,defs:=[],rnd:=none,ret:=false,res:=[ARes.tmp 2] }]
def Zgd(ms ks rs:List AV)(n3:Int):Zaa:=[(60002,{ base:=0,blks:=[Blk.row 26 3 (Row.gen [AV.agg (Row.gen [AV.list (Row.big .str ms),AV.list (Row.big (.agg [.str, .int .i64]) ks),AV.list (Row.big (.agg [.str, .int .i64, .int .i64, .int .i64, .int .i64]) rs)])])] })]
abbrev Zq6(ms ks rs:List AV)(n3:Int):List AFrame×Zaa:=(ZiK ms ks rs n3,Zgd ms ks rs n3)
def ZiM(ms ks rs x2:List AV)(n4:Int):List AFrame:=[{ fn:=60,N:=62,env:=[(1,AV.ptr 60002 0 0 0),(3,AV.row 60027 0),(4,AV.nils),(29,AV.list (Row.big (.agg [.str, .int .i64, .int .i64, .int .i64, .int .i64]) rs)),(30,AV.int .i64 n4),(31,AV.int .i64 0)],todo:=.code (ACode.gh [] Zs8)::ZtC,defs:=[],rnd:=none,ret:=false,res:=[ARes.tmp 2] }]
def Zgg(ms ks rs x2:List AV)(n4:Int):Zaa:=[(60002,{ base:=0,blks:=[Blk.row 26 3 (Row.gen [AV.agg (Row.gen [AV.list (Row.big .str ms),AV.list (Row.big (.agg [.str, .int .i64]) ks),AV.list (Row.big (.agg [.str, .int .i64, .int .i64, .int .i64, .int .i64]) rs)])])] }),(60027,{ base:=0,blks:=[Blk.row 9 1 (Row.big .str x2)] })]
abbrev Zqg(ms ks rs x2:List AV)(n4:Int):List AFrame×Zaa:=(ZiM ms ks rs x2 n4,Zgg ms ks rs x2 n4)
def ZiU(ms ks rs:List AV)(n3 n5:Int)(x6:List AV):List AFrame:=[{ fn:=60,N:=62,env:=[(1,AV.ptr 60002 0 0 0),(3,AV.nils),(4,AV.row 60052 0),(29,AV.list (Row.big (.agg [.str, .int .i64, .int .i64, .int .i64, .int .i64]) rs)),(30,AV.int .i64 n3),(31,AV.int .i64 n5)],todo:=.code (ACode.gh [] Zs8)::ZtC,defs:=[],rnd:=none,ret:=false,res:=[ARes.tmp 2] }]
def Zgy(ms ks rs:List AV)(n3 n5:Int)(x6:List AV):Zaa:=[(60002,{ base:=0,blks:=[Blk.row 26 3 (Row.gen [AV.agg (Row.gen [AV.list (Row.big .str ms),AV.list (Row.big (.agg [.str, .int .i64]) ks),AV.list (Row.big (.agg [.str, .int .i64, .int .i64, .int .i64, .int .i64]) rs)])])] }),(60052,{ base:=0,blks:=[Blk.row 9 1 (Row.big .str x6)] })]
abbrev ZkQ(ms ks rs:List AV)(n3 n5:Int)(x6:List AV):List AFrame×Zaa:=(ZiU ms ks rs n3 n5 x6,Zgy ms ks rs n3 n5 x6)
def Zjr(ms ks rs x2:List AV)(n4 n7:Int)(x8:List AV):List AFrame:=[{ fn:=60,N:=62,env:=[(1,AV.ptr 60002 0 0 0),(3,AV.row 60027 0),(4,AV.row 60052 0),(29,AV.list (Row.big (.agg [.str, .int .i64, .int .i64, .int .i64, .int .i64]) rs)),(30,AV.int .i64 n4),(31,AV.int .i64 n7)],todo:=.code (ACode.gh [] Zs8)::ZtC,defs:=[],rnd:=none,ret:=false,res:=[ARes.tmp 2] }]
def Zge(ms ks rs x2:List AV)(n4 n7:Int)(x8:List AV):Zaa:=[(60002,{ base:=0,blks:=[Blk.row 26 3 (Row.gen [AV.agg (Row.gen [AV.list (Row.big .str ms),AV.list (Row.big (.agg [.str, .int .i64]) ks),AV.list (Row.big (.agg [.str, .int .i64, .int .i64, .int .i64, .int .i64]) rs)])])] }),(60027,{ base:=0,blks:=[Blk.row 9 1 (Row.big .str x2)] }),(60052,{ base:=0,blks:=[Blk.row 9 1 (Row.big .str x8)] })]
abbrev Zky(ms ks rs x2:List AV)(n4 n7:Int)(x8:List AV):List AFrame×Zaa:=(Zjr ms ks rs x2 n4 n7 x8,Zge ms ks rs x2 n4 n7 x8)
def ZBY(A:Ar)(K:KT)(F:FT)(ms ks rs:List AV):Prop:=K (ZqS (ms) (ks) (rs) (A.int (A.lenA ks)))
theorem ZGZ{A:Ar}{K:KT}{F:FT}{M:MT}{ms ks rs:List AV} :ZaG A tab Ls2 60 K F M (.run 21 (.hd)) (ZKo ms ks rs) []=ZBY A K F ms ks rs:=by kernel_rfl
def ZgE(A:Ar)(K:KT)(F:FT)(ms ks rs:List AV)(n0:Int):Prop:=bB (A.lt 0 n0) (rB [A.inR .i64 (A.add 0 1),Zae (Nat.ble (A.lenA [AV.str (A.appS (A.appS ((A.nthA ks (A.nat 0)).cellAt 0).toS [32]) (Za3 [AV.toI (AV.cellAt (A.nthA ks (A.nat 0)) 1)]))]) 4294967296) (Nat.blt 0 (A.lenA [AV.str (A.appS (A.appS ((A.nthA ks (A.nat 0)).cellAt 0).toS [32]) (Za3 [AV.toI (AV.cellAt (A.nthA ks (A.nat 0)) 1)]))])),List.all [AV.str (A.appS (A.appS ((A.nthA ks (A.nat 0)).cellAt 0).toS [32]) (Za3 [AV.toI (AV.cellAt (A.nthA ks (A.nat 0)) 1)]))] fun x=>AV.bx x&&Nat.beq (Zab A x) 1,Nat.ble (A.lenS (A.appS ((A.nthA ks (A.nat 0)).cellAt 0).toS [32])+A.lenS (Za3 [AV.toI (AV.cellAt (A.nthA ks (A.nat 0)) 1)])) 4294967296,decide (Zb7 [AV.toI (AV.cellAt (A.nthA ks (A.nat 0)) 1)]=true),List.all [AV.int .i64 ((A.nthA ks (A.nat 0)).cellAt 1).toI] fun x=>AV.bx x&&Nat.beq (Zab A x) 1,Nat.ble (A.lenS ((A.nthA ks (A.nat 0)).cellAt 0).toS+A.lenS [32]) 4294967296,Zae (Zae (A.le 0 0) (Nat.blt (A.nat 0) (A.lenA ks))) true] (K (ZjW (ms) (ks) (rs) (n0) (A.add 0 1) ([AV.str (A.appS (A.appS ((A.nthA ks (A.nat 0)).cellAt 0).toS [32]) (Za3 [AV.toI (AV.cellAt (A.nthA ks (A.nat 0)) 1)]))])))) (K (Zq6 (ms) (ks) (rs) (A.int (A.lenA rs))))
theorem Zqd{A:Ar}{K:KT}{F:FT}{M:MT}{ms ks rs:List AV}{n0:Int} :ZaG A tab Ls2 60 K F M (.run 6 (.tf (.run 18 (.hd)) (.run 12 (.hd)))) (Zi3 ms ks rs n0) (Zgq ms ks rs n0)=ZgE A K F ms ks rs n0:=by kernel_rfl
def Zgj(A:Ar)(K:KT)(F:FT)(ms ks rs:List AV)(n0 n1:Int)(x2:List AV):Prop:=bB (A.lt n1 n0) (rB [A.inR .i64 (A.add n1 1),Nat.ble (A.lenA x2+A.lenA [AV.str (A.appS (A.appS ((A.nthA ks (A.nat n1)).cellAt 0).toS [32]) (Za3 [AV.toI (AV.cellAt (A.nthA ks (A.nat n1)) 1)]))]) 4294967296,List.all [AV.str (A.appS (A.appS ((A.nthA ks (A.nat n1)).cellAt 0).toS [32]) (Za3 [AV.toI (AV.cellAt (A.nthA ks (A.nat n1)) 1)]))] fun x=>AV.bx x&&Nat.beq (Zab A x) 1,Nat.ble (A.lenS (A.appS ((A.nthA ks (A.nat n1)).cellAt 0).toS [32])+A.lenS (Za3 [AV.toI (AV.cellAt (A.nthA ks (A.nat n1)) 1)])) 4294967296,decide (Zb7 [AV.toI (AV.cellAt (A.nthA ks (A.nat n1)) 1)]=true),List.all [AV.int .i64 ((A.nthA ks (A.nat n1)).cellAt 1).toI] fun x=>AV.bx x&&Nat.beq (Zab A x) 1,Nat.ble (A.lenS ((A.nthA ks (A.nat n1)).cellAt 0).toS+A.lenS [32]) 4294967296,Zae (Zae (A.le 0 n1) (Nat.blt (A.nat n1) (A.lenA ks))) true] (K (ZjW (ms) (ks) (rs) (n0) (A.add n1 1) (A.appA x2 [AV.str (A.appS (A.appS ((A.nthA ks (A.nat n1)).cellAt 0).toS [32]) (Za3 [AV.toI (AV.cellAt (A.nthA ks (A.nat n1)) 1)]))])))) (K (Zqg (ms) (ks) (rs) (x2) (A.int (A.lenA rs))))
theorem Zkf{A:Ar}{K:KT}{F:FT}{M:MT}{ms ks rs:List AV}{n0 n1:Int}{x2:List AV} :ZaG A tab Ls2 60 K F M (.run 6 (.tf (.run 18 (.hd)) (.run 12 (.hd)))) (ZiT ms ks rs n0 n1 x2) (ZgC ms ks rs n0 n1 x2)=Zgj A K F ms ks rs n0 n1 x2:=by kernel_rfl
def ZgR(A:Ar)(K:KT)(F:FT)(ms ks rs:List AV)(n3:Int):Prop:=bB (A.lt 0 n3) (rB [A.inR .i64 (A.add 0 1),Zae (Nat.ble (A.lenA [AV.str (A.appS (A.appS ((A.nthA rs (A.nat 0)).cellAt 0).toS [32]) (Za3 [AV.toI (AV.cellAt (A.nthA rs (A.nat 0)) 1),AV.toI (AV.cellAt (A.nthA rs (A.nat 0)) 2),AV.toI (AV.cellAt (A.nthA rs (A.nat 0)) 3),AV.toI (AV.cellAt (A.nthA rs (A.nat 0)) 4)]))]) 4294967296) (Nat.blt 0 (A.lenA [AV.str (A.appS (A.appS ((A.nthA rs (A.nat 0)).cellAt 0).toS [32]) (Za3 [AV.toI (AV.cellAt (A.nthA rs (A.nat 0)) 1),AV.toI (AV.cellAt (A.nthA rs (A.nat 0)) 2),AV.toI (AV.cellAt (A.nthA rs (A.nat 0)) 3),AV.toI (AV.cellAt (A.nthA rs (A.nat 0)) 4)]))])),List.all [AV.str (A.appS (A.appS ((A.nthA rs (A.nat 0)).cellAt 0).toS [32]) (Za3 [AV.toI (AV.cellAt (A.nthA rs (A.nat 0)) 1),AV.toI (AV.cellAt (A.nthA rs (A.nat 0)) 2),AV.toI (AV.cellAt (A.nthA rs (A.nat 0)) 3),AV.toI (AV.cellAt (A.nthA rs (A.nat 0)) 4)]))] fun x=>AV.bx x&&Nat.beq (Zab A x) 1,Nat.ble (A.lenS (A.appS ((A.nthA rs (A.nat 0)).cellAt 0).toS [32])+A.lenS (Za3 [AV.toI (AV.cellAt (A.nthA rs (A.nat 0)) 1),AV.toI (AV.cellAt (A.nthA rs (A.nat 0)) 2),AV.toI (AV.cellAt (A.nthA rs (A.nat 0)) 3),AV.toI (AV.cellAt (A.nthA rs (A.nat 0)) 4)])) 4294967296,decide (Zb7 [AV.toI (AV.cellAt (A.nthA rs (A.nat 0)) 1),AV.toI (AV.cellAt (A.nthA rs (A.nat 0)) 2),AV.toI (AV.cellAt (A.nthA rs (A.nat 0)) 3),AV.toI (AV.cellAt (A.nthA rs (A.nat 0)) 4)]=true),List.all [AV.int .i64 ((A.nthA rs (A.nat 0)).cellAt 1).toI,AV.int .i64 ((A.nthA rs (A.nat 0)).cellAt 2).toI,AV.int .i64 ((A.nthA rs (A.nat 0)).cellAt 3).toI,AV.int .i64 ((A.nthA rs (A.nat 0)).cellAt 4).toI] fun x=>AV.bx x&&Nat.beq (Zab A x) 1,Nat.ble (A.lenS ((A.nthA rs (A.nat 0)).cellAt 0).toS+A.lenS [32]) 4294967296,Zae (Zae (A.le 0 0) (Nat.blt (A.nat 0) (A.lenA rs))) true] (K (ZkQ (ms) (ks) (rs) (n3) (A.add 0 1) ([AV.str (A.appS (A.appS ((A.nthA rs (A.nat 0)).cellAt 0).toS [32]) (Za3 [AV.toI (AV.cellAt (A.nthA rs (A.nat 0)) 1),AV.toI (AV.cellAt (A.nthA rs (A.nat 0)) 2),AV.toI (AV.cellAt (A.nthA rs (A.nat 0)) 3),AV.toI (AV.cellAt (A.nthA rs (A.nat 0)) 4)]))])))) (rB [decide (List.length ms≤1000000∧List.length (Go.Lib.join (List.map AV.toS ms) [32])≤1000000)] (rB [A.eq (A.int 0) 0] (rB [A.eq (A.int 0) 0] (rB [decide (List.length [AV.str (Go.Lib.join (List.map AV.toS ms) [32]),AV.str [],AV.str []]≤1000000∧List.length (Go.Lib.join (List.map AV.toS [AV.str (Go.Lib.join (List.map AV.toS ms) [32]),AV.str [],AV.str []]) [59])≤1000000),List.all [AV.str (Go.Lib.join (List.map AV.toS ms) [32]),AV.str [],AV.str []] fun x=>AV.bx x&&Nat.beq (Zab A x) 1] (F (AV.str (Go.Lib.join [Go.Lib.join (List.map AV.toS ms) [32],[],[]] [59])) (none))))))
theorem Zqj{A:Ar}{K:KT}{F:FT}{M:MT}{ms ks rs:List AV}{n3:Int} :ZaG A tab Ls2 60 K F M (.run 6 (.tf (.run 18 (.hd)) (.run 24 (.ty (.run 24 (.ty (.run 12 (.fn)))))))) (ZiK ms ks rs n3) (Zgd ms ks rs n3)=ZgR A K F ms ks rs n3:=by kernel_rfl
def ZgI(A:Ar)(K:KT)(F:FT)(ms ks rs x2:List AV)(n4:Int):Prop:=bB (A.lt 0 n4) (rB [A.inR .i64 (A.add 0 1),Zae (Nat.ble (A.lenA [AV.str (A.appS (A.appS ((A.nthA rs (A.nat 0)).cellAt 0).toS [32]) (Za3 [AV.toI (AV.cellAt (A.nthA rs (A.nat 0)) 1),AV.toI (AV.cellAt (A.nthA rs (A.nat 0)) 2),AV.toI (AV.cellAt (A.nthA rs (A.nat 0)) 3),AV.toI (AV.cellAt (A.nthA rs (A.nat 0)) 4)]))]) 4294967296) (Nat.blt 0 (A.lenA [AV.str (A.appS (A.appS ((A.nthA rs (A.nat 0)).cellAt 0).toS [32]) (Za3 [AV.toI (AV.cellAt (A.nthA rs (A.nat 0)) 1),AV.toI (AV.cellAt (A.nthA rs (A.nat 0)) 2),AV.toI (AV.cellAt (A.nthA rs (A.nat 0)) 3),AV.toI (AV.cellAt (A.nthA rs (A.nat 0)) 4)]))])),List.all [AV.str (A.appS (A.appS ((A.nthA rs (A.nat 0)).cellAt 0).toS [32]) (Za3 [AV.toI (AV.cellAt (A.nthA rs (A.nat 0)) 1),AV.toI (AV.cellAt (A.nthA rs (A.nat 0)) 2),AV.toI (AV.cellAt (A.nthA rs (A.nat 0)) 3),AV.toI (AV.cellAt (A.nthA rs (A.nat 0)) 4)]))] fun x=>AV.bx x&&Nat.beq (Zab A x) 1,Nat.ble (A.lenS (A.appS ((A.nthA rs (A.nat 0)).cellAt 0).toS [32])+A.lenS (Za3 [AV.toI (AV.cellAt (A.nthA rs (A.nat 0)) 1),AV.toI (AV.cellAt (A.nthA rs (A.nat 0)) 2),AV.toI (AV.cellAt (A.nthA rs (A.nat 0)) 3),AV.toI (AV.cellAt (A.nthA rs (A.nat 0)) 4)])) 4294967296,decide (Zb7 [AV.toI (AV.cellAt (A.nthA rs (A.nat 0)) 1),AV.toI (AV.cellAt (A.nthA rs (A.nat 0)) 2),AV.toI (AV.cellAt (A.nthA rs (A.nat 0)) 3),AV.toI (AV.cellAt (A.nthA rs (A.nat 0)) 4)]=true),List.all [AV.int .i64 ((A.nthA rs (A.nat 0)).cellAt 1).toI,AV.int .i64 ((A.nthA rs (A.nat 0)).cellAt 2).toI,AV.int .i64 ((A.nthA rs (A.nat 0)).cellAt 3).toI,AV.int .i64 ((A.nthA rs (A.nat 0)).cellAt 4).toI] fun x=>AV.bx x&&Nat.beq (Zab A x) 1,Nat.ble (A.lenS ((A.nthA rs (A.nat 0)).cellAt 0).toS+A.lenS [32]) 4294967296,Zae (Zae (A.le 0 0) (Nat.blt (A.nat 0) (A.lenA rs))) true] (K (Zky (ms) (ks) (rs) (x2) (n4) (A.add 0 1) ([AV.str (A.appS (A.appS ((A.nthA rs (A.nat 0)).cellAt 0).toS [32]) (Za3 [AV.toI (AV.cellAt (A.nthA rs (A.nat 0)) 1),AV.toI (AV.cellAt (A.nthA rs (A.nat 0)) 2),AV.toI (AV.cellAt (A.nthA rs (A.nat 0)) 3),AV.toI (AV.cellAt (A.nthA rs (A.nat 0)) 4)]))])))) (rB [decide (List.length x2≤1000000∧List.length (Go.Lib.join (List.map AV.toS x2) [44])≤1000000),decide (List.length ms≤1000000∧List.length (Go.Lib.join (List.map AV.toS ms) [32])≤1000000)] (rB [A.eq (A.int 0) 0] (rB [decide (List.length [AV.str (Go.Lib.join (List.map AV.toS ms) [32]),AV.str (Go.Lib.join (List.map AV.toS x2) [44]),AV.str []]≤1000000∧List.length (Go.Lib.join (List.map AV.toS [AV.str (Go.Lib.join (List.map AV.toS ms) [32]),AV.str (Go.Lib.join (List.map AV.toS x2) [44]),AV.str []]) [59])≤1000000),List.all [AV.str (Go.Lib.join (List.map AV.toS ms) [32]),AV.str (Go.Lib.join (List.map AV.toS x2) [44]),AV.str []] fun x=>AV.bx x&&Nat.beq (Zab A x) 1] (F (AV.str (Go.Lib.join [Go.Lib.join (List.map AV.toS ms) [32],Go.Lib.join (List.map AV.toS x2) [44],[]] [59])) (none)))))
theorem ZqH{A:Ar}{K:KT}{F:FT}{M:MT}{ms ks rs x2:List AV}{n4:Int} :ZaG A tab Ls2 60 K F M (.run 6 (.tf (.run 18 (.hd)) (.run 26 (.ty (.run 12 (.fn)))))) (ZiM ms ks rs x2 n4) (Zgg ms ks rs x2 n4)=ZgI A K F ms ks rs x2 n4:=by kernel_rfl
def Zgk(A:Ar)(K:KT)(F:FT)(ms ks rs:List AV)(n3 n5:Int)(x6:List AV):Prop:=bB (A.lt n5 n3) (rB [A.inR .i64 (A.add n5 1),Nat.ble (A.lenA x6+A.lenA [AV.str (A.appS (A.appS ((A.nthA rs (A.nat n5)).cellAt 0).toS [32]) (Za3 [AV.toI (AV.cellAt (A.nthA rs (A.nat n5)) 1),AV.toI (AV.cellAt (A.nthA rs (A.nat n5)) 2),AV.toI (AV.cellAt (A.nthA rs (A.nat n5)) 3),AV.toI (AV.cellAt (A.nthA rs (A.nat n5)) 4)]))]) 4294967296,List.all [AV.str (A.appS (A.appS ((A.nthA rs (A.nat n5)).cellAt 0).toS [32]) (Za3 [AV.toI (AV.cellAt (A.nthA rs (A.nat n5)) 1),AV.toI (AV.cellAt (A.nthA rs (A.nat n5)) 2),AV.toI (AV.cellAt (A.nthA rs (A.nat n5)) 3),AV.toI (AV.cellAt (A.nthA rs (A.nat n5)) 4)]))] fun x=>AV.bx x&&Nat.beq (Zab A x) 1,Nat.ble (A.lenS (A.appS ((A.nthA rs (A.nat n5)).cellAt 0).toS [32])+A.lenS (Za3 [AV.toI (AV.cellAt (A.nthA rs (A.nat n5)) 1),AV.toI (AV.cellAt (A.nthA rs (A.nat n5)) 2),AV.toI (AV.cellAt (A.nthA rs (A.nat n5)) 3),AV.toI (AV.cellAt (A.nthA rs (A.nat n5)) 4)])) 4294967296,decide (Zb7 [AV.toI (AV.cellAt (A.nthA rs (A.nat n5)) 1),AV.toI (AV.cellAt (A.nthA rs (A.nat n5)) 2),AV.toI (AV.cellAt (A.nthA rs (A.nat n5)) 3),AV.toI (AV.cellAt (A.nthA rs (A.nat n5)) 4)]=true),List.all [AV.int .i64 ((A.nthA rs (A.nat n5)).cellAt 1).toI,AV.int .i64 ((A.nthA rs (A.nat n5)).cellAt 2).toI,AV.int .i64 ((A.nthA rs (A.nat n5)).cellAt 3).toI,AV.int .i64 ((A.nthA rs (A.nat n5)).cellAt 4).toI] fun x=>AV.bx x&&Nat.beq (Zab A x) 1,Nat.ble (A.lenS ((A.nthA rs (A.nat n5)).cellAt 0).toS+A.lenS [32]) 4294967296,Zae (Zae (A.le 0 n5) (Nat.blt (A.nat n5) (A.lenA rs))) true] (K (ZkQ (ms) (ks) (rs) (n3) (A.add n5 1) (A.appA x6 [AV.str (A.appS (A.appS ((A.nthA rs (A.nat n5)).cellAt 0).toS [32]) (Za3 [AV.toI (AV.cellAt (A.nthA rs (A.nat n5)) 1),AV.toI (AV.cellAt (A.nthA rs (A.nat n5)) 2),AV.toI (AV.cellAt (A.nthA rs (A.nat n5)) 3),AV.toI (AV.cellAt (A.nthA rs (A.nat n5)) 4)]))])))) (rB [decide (List.length ms≤1000000∧List.length (Go.Lib.join (List.map AV.toS ms) [32])≤1000000)] (rB [A.eq (A.int 0) 0] (rB [decide (List.length [AV.str (Go.Lib.join (List.map AV.toS ms) [32]),AV.str [],AV.str (Go.Lib.join (List.map AV.toS x6) [44])]≤1000000∧List.length (Go.Lib.join (List.map AV.toS [AV.str (Go.Lib.join (List.map AV.toS ms) [32]),AV.str [],AV.str (Go.Lib.join (List.map AV.toS x6) [44])]) [59])≤1000000),List.all [AV.str (Go.Lib.join (List.map AV.toS ms) [32]),AV.str [],AV.str (Go.Lib.join (List.map AV.toS x6) [44])] fun x=>AV.bx x&&Nat.beq (Zab A x) 1,decide (List.length x6≤1000000∧List.length (Go.Lib.join (List.map AV.toS x6) [44])≤1000000)] (F (AV.str (Go.Lib.join [Go.Lib.join (List.map AV.toS ms) [32],[],Go.Lib.join (List.map AV.toS x6) [44]] [59])) (none)))))
theorem Zkk{A:Ar}{K:KT}{F:FT}{M:MT}{ms ks rs:List AV}{n3 n5:Int}{x6:List AV} :ZaG A tab Ls2 60 K F M (.run 6 (.tf (.run 18 (.hd)) (.run 24 (.ty (.run 14 (.fn)))))) (ZiU ms ks rs n3 n5 x6) (Zgy ms ks rs n3 n5 x6)=Zgk A K F ms ks rs n3 n5 x6:=by kernel_rfl
def ZgB(A:Ar)(K:KT)(F:FT)(ms ks rs x2:List AV)(n4 n7:Int)(x8:List AV):Prop:=bB (A.lt n7 n4) (rB [A.inR .i64 (A.add n7 1),Nat.ble (A.lenA x8+A.lenA [AV.str (A.appS (A.appS ((A.nthA rs (A.nat n7)).cellAt 0).toS [32]) (Za3 [AV.toI (AV.cellAt (A.nthA rs (A.nat n7)) 1),AV.toI (AV.cellAt (A.nthA rs (A.nat n7)) 2),AV.toI (AV.cellAt (A.nthA rs (A.nat n7)) 3),AV.toI (AV.cellAt (A.nthA rs (A.nat n7)) 4)]))]) 4294967296,List.all [AV.str (A.appS (A.appS ((A.nthA rs (A.nat n7)).cellAt 0).toS [32]) (Za3 [AV.toI (AV.cellAt (A.nthA rs (A.nat n7)) 1),AV.toI (AV.cellAt (A.nthA rs (A.nat n7)) 2),AV.toI (AV.cellAt (A.nthA rs (A.nat n7)) 3),AV.toI (AV.cellAt (A.nthA rs (A.nat n7)) 4)]))] fun x=>AV.bx x&&Nat.beq (Zab A x) 1,Nat.ble (A.lenS (A.appS ((A.nthA rs (A.nat n7)).cellAt 0).toS [32])+A.lenS (Za3 [AV.toI (AV.cellAt (A.nthA rs (A.nat n7)) 1),AV.toI (AV.cellAt (A.nthA rs (A.nat n7)) 2),AV.toI (AV.cellAt (A.nthA rs (A.nat n7)) 3),AV.toI (AV.cellAt (A.nthA rs (A.nat n7)) 4)])) 4294967296,decide (Zb7 [AV.toI (AV.cellAt (A.nthA rs (A.nat n7)) 1),AV.toI (AV.cellAt (A.nthA rs (A.nat n7)) 2),AV.toI (AV.cellAt (A.nthA rs (A.nat n7)) 3),AV.toI (AV.cellAt (A.nthA rs (A.nat n7)) 4)]=true),List.all [AV.int .i64 ((A.nthA rs (A.nat n7)).cellAt 1).toI,AV.int .i64 ((A.nthA rs (A.nat n7)).cellAt 2).toI,AV.int .i64 ((A.nthA rs (A.nat n7)).cellAt 3).toI,AV.int .i64 ((A.nthA rs (A.nat n7)).cellAt 4).toI] fun x=>AV.bx x&&Nat.beq (Zab A x) 1,Nat.ble (A.lenS ((A.nthA rs (A.nat n7)).cellAt 0).toS+A.lenS [32]) 4294967296,Zae (Zae (A.le 0 n7) (Nat.blt (A.nat n7) (A.lenA rs))) true] (K (Zky (ms) (ks) (rs) (x2) (n4) (A.add n7 1) (A.appA x8 [AV.str (A.appS (A.appS ((A.nthA rs (A.nat n7)).cellAt 0).toS [32]) (Za3 [AV.toI (AV.cellAt (A.nthA rs (A.nat n7)) 1),AV.toI (AV.cellAt (A.nthA rs (A.nat n7)) 2),AV.toI (AV.cellAt (A.nthA rs (A.nat n7)) 3),AV.toI (AV.cellAt (A.nthA rs (A.nat n7)) 4)]))])))) (rB [decide (List.length [AV.str (Go.Lib.join (List.map AV.toS ms) [32]),AV.str (Go.Lib.join (List.map AV.toS x2) [44]),AV.str (Go.Lib.join (List.map AV.toS x8) [44])]≤1000000∧List.length (Go.Lib.join (List.map AV.toS [AV.str (Go.Lib.join (List.map AV.toS ms) [32]),AV.str (Go.Lib.join (List.map AV.toS x2) [44]),AV.str (Go.Lib.join (List.map AV.toS x8) [44])]) [59])≤1000000),List.all [AV.str (Go.Lib.join (List.map AV.toS ms) [32]),AV.str (Go.Lib.join (List.map AV.toS x2) [44]),AV.str (Go.Lib.join (List.map AV.toS x8) [44])] fun x=>AV.bx x&&Nat.beq (Zab A x) 1,decide (List.length x8≤1000000∧List.length (Go.Lib.join (List.map AV.toS x8) [44])≤1000000),decide (List.length x2≤1000000∧List.length (Go.Lib.join (List.map AV.toS x2) [44])≤1000000),decide (List.length ms≤1000000∧List.length (Go.Lib.join (List.map AV.toS ms) [32])≤1000000)] (F (AV.str (Go.Lib.join [Go.Lib.join (List.map AV.toS ms) [32],Go.Lib.join (List.map AV.toS x2) [44],Go.Lib.join (List.map AV.toS x8) [44]] [59])) (none)))
theorem ZkA{A:Ar}{K:KT}{F:FT}{M:MT}{ms ks rs x2:List AV}{n4 n7:Int}{x8:List AV} :ZaG A tab Ls2 60 K F M (.run 6 (.tf (.run 18 (.hd)) (.run 16 (.fn)))) (Zjr ms ks rs x2 n4 n7 x8) (Zge ms ks rs x2 n4 n7 x8)=ZgB A K F ms ks rs x2 n4 n7 x8:=by kernel_rfl
def ZBj(ms ks rs ms1 ks1 rs1:List AV):AFrame:={ fn:=64,N:=67,env:=[(0,AV.agg (Row.gen [.list (Row.big .str ms), .list (Row.big (.agg [.str, .int .i64]) ks), .list (Row.big (.agg [.str, .int .i64, .int .i64, .int .i64, .int .i64]) rs)])),(1,AV.agg (Row.gen [.list (Row.big .str ms1), .list (Row.big (.agg [.str, .int .i64]) ks1), .list (Row.big (.agg [.str, .int .i64, .int .i64, .int .i64, .int .i64]) rs1)]))],todo:=[.code a64.code],defs:=[],rnd:=none,ret:=false,res:=[ARes.tmp 4] }
def ZLk(ms ks rs ms1 ks1 rs1:List AV):List AFrame:=[(ZBj ms ks rs ms1 ks1 rs1)]
theorem Zy1(ms ks rs ms1 ks1 rs1:List AV):ZaB tab 64 [AV.agg (Row.gen [.list (Row.big .str ms), .list (Row.big (.agg [.str, .int .i64]) ks), .list (Row.big (.agg [.str, .int .i64, .int .i64, .int .i64, .int .i64]) rs)]),AV.agg (Row.gen [.list (Row.big .str ms1), .list (Row.big (.agg [.str, .int .i64]) ks1), .list (Row.big (.agg [.str, .int .i64, .int .i64, .int .i64, .int .i64]) rs1)])]=some (ZBj ms ks rs ms1 ks1 rs1):=rfl
def Zgr(ms ks rs ms1 ks1 rs1:List AV)(n0:Int):List AFrame:=[{ fn:=118,N:=26,env:=[(0,AV.list (Row.big .str ms)),(1,AV.list (Row.big .str ms1)),(5,AV.int .i64 n0)],todo:=.code (ACode.gh [] ZuW)::ZBN,defs:=[],rnd:=none,ret:=false,res:=[ARes.tmp 4] },{ fn:=64,N:=67,env:=[(0,AV.agg (Row.gen [.list (Row.big .str ms), .list (Row.big (.agg [.str, .int .i64]) ks), .list (Row.big (.agg [.str, .int .i64, .int .i64, .int .i64, .int .i64]) rs)])),(1,AV.agg (Row.gen [.list (Row.big .str ms1), .list (Row.big (.agg [.str, .int .i64]) ks1), .list (Row.big (.agg [.str, .int .i64, .int .i64, .int .i64, .int .i64]) rs1)])),(2,AV.ptr 64003 0 0 0),(3,AV.ptr 64004 0 0 0),(4,AV.bool false),(7,AV.ptr 64003 0 0 0),(8,AV.list (Row.big .str ms)),(9,AV.ptr 64004 0 0 0),(10,AV.list (Row.big .str ms1))],todo:=[AItem.inReg [oN 11 (OpK.ncall true 0 118 [Opd.t 8,Opd.t 10]),oN 12 (OpK.not (Opd.t 11)),mV 13 12,{ d:=some 14,g:=some (13,false),k:=OpK.faddr 1 (Opd.t 2) },{ d:=some 15,g:=some (13,false),k:=OpK.load false 1 (Opd.t 14) },{ d:=some 16,g:=some (13,false),k:=OpK.len (Opd.t 15) },{ d:=some 17,g:=some (13,false),k:=OpK.faddr 1 (Opd.t 3) },{ d:=some 18,g:=some (13,false),k:=OpK.load false 1 (Opd.t 17) },{ d:=some 19,g:=some (13,false),k:=OpK.len (Opd.t 18) },{ d:=some 20,g:=some (13,false),k:=OpK.bin Go.BinOp.neq (Opd.t 16) (Opd.t 19) },oN 21 (OpK.pick (Opd.t 13) (Opd.c (AV.bool true)) (Opd.t 20)),mV 22 21,{ d:=some 23,g:=some (22,false),k:=OpK.faddr 2 (Opd.t 2) },{ d:=some 24,g:=some (22,false),k:=OpK.load false 1 (Opd.t 23) },{ d:=some 25,g:=some (22,false),k:=OpK.len (Opd.t 24) },{ d:=some 26,g:=some (22,false),k:=OpK.faddr 2 (Opd.t 3) },{ d:=some 27,g:=some (22,false),k:=OpK.load false 1 (Opd.t 26) },{ d:=some 28,g:=some (22,false),k:=OpK.len (Opd.t 27) },{ d:=some 29,g:=some (22,false),k:=OpK.bin Go.BinOp.neq (Opd.t 25) (Opd.t 28) },oN 30 (OpK.pick (Opd.t 22) (Opd.c (AV.bool true)) (Opd.t 29))], .code (ACode.gh [Ghost.keep [2,3,30]] (ACode.cond (Opd.t 30) (ACode.seq (ACode.reg none [oN 4 (OpK.mov (Opd.c (AV.bool false)))]) ACode.ret) ACode.skip)), .code (ACode.seq (ACode.seq (ACode.reg none [oN 5 (OpK.mov (cI 0))]) (ACode.block 0 (ACode.loop Zxt))) Zxs)],defs:=[],rnd:=none,ret:=false,res:=[ARes.tmp 4] }]
def Zfn(ms ks rs ms1 ks1 rs1:List AV)(n0:Int):Zaa:=[(64003,{ base:=0,blks:=[Blk.row 26 3 (Row.gen [AV.agg (Row.gen [AV.list (Row.big .str ms),AV.list (Row.big (.agg [.str, .int .i64]) ks),AV.list (Row.big (.agg [.str, .int .i64, .int .i64, .int .i64, .int .i64]) rs)])])] }),(64004,{ base:=0,blks:=[Blk.row 26 3 (Row.gen [AV.agg (Row.gen [AV.list (Row.big .str ms1),AV.list (Row.big (.agg [.str, .int .i64]) ks1),AV.list (Row.big (.agg [.str, .int .i64, .int .i64, .int .i64, .int .i64]) rs1)])])] })]
abbrev Zjz(ms ks rs ms1 ks1 rs1:List AV)(n0:Int):List AFrame×Zaa:=(Zgr ms ks rs ms1 ks1 rs1 n0,Zfn ms ks rs ms1 ks1 rs1 n0)
def Zi7(ms ks rs ms1 ks1 rs1:List AV)(n1:Int):List AFrame:=[{ fn:=64,N:=67,env:=[(2,AV.ptr 64003 0 0 0),(3,AV.ptr 64004 0 0 0),(5,AV.int .i64 n1)],todo:=.code (ACode.gh [] ZCl)::ZG0,defs:=[],rnd:=none,ret:=false,res:=[ARes.tmp 4] }]
def Zgm(ms ks rs ms1 ks1 rs1:List AV)(n1:Int):Zaa:=[(64003,{ base:=0,blks:=[Blk.row 26 3 (Row.gen [AV.agg (Row.gen [AV.list (Row.big .str ms),AV.list (Row.big (.agg [.str, .int .i64]) ks),AV.list (Row.big (.agg [.str, .int .i64, .int .i64, .int .i64, .int .i64]) rs)])])] }),(64004,{ base:=0,blks:=[Blk.row 26 3 (Row.gen [AV.agg (Row.gen [AV.list (Row.big .str ms1),AV.list (Row.big (.agg [.str, .int .i64]) ks1),AV.list (Row.big (.agg [.str, .int .i64, .int .i64, .int .i64, .int .i64]) rs1)])])] })]
abbrev ZkR(ms ks rs ms1 ks1 rs1:List AV)(n1:Int):List AFrame×Zaa:=(Zi7 ms ks rs ms1 ks1 rs1 n1,Zgm ms ks rs ms1 ks1 rs1 n1)
def ZjD(ms ks rs ms1 ks1 rs1:List AV)(n2:Int):List AFrame:=[{ fn:=64,N:=67,env:=[(2,AV.ptr 64003 0 0 0),(3,AV.ptr 64004 0 0 0),(6,AV.int .i64 n2)],todo:=.code (ACode.gh [] ZCg)::ZGt,defs:=[],rnd:=none,ret:=false,res:=[ARes.tmp 4] }]
def ZgS(ms ks rs ms1 ks1 rs1:List AV)(n2:Int):Zaa:=[(64003,{ base:=0,blks:=[Blk.row 26 3 (Row.gen [AV.agg (Row.gen [AV.list (Row.big .str ms),AV.list (Row.big (.agg [.str, .int .i64]) ks),AV.list (Row.big (.agg [.str, .int .i64, .int .i64, .int .i64, .int .i64]) rs)])])] }),(64004,{ base:=0,blks:=[Blk.row 26 3 (Row.gen [AV.agg (Row.gen [AV.list (Row.big .str ms1),AV.list (Row.big (.agg [.str, .int .i64]) ks1),AV.list (Row.big (.agg [.str, .int .i64, .int .i64, .int .i64, .int .i64]) rs1)])])] })]
abbrev Zj9(ms ks rs ms1 ks1 rs1:List AV)(n2:Int):List AFrame×Zaa:=(ZjD ms ks rs ms1 ks1 rs1 n2,ZgS ms ks rs ms1 ks1 rs1 n2)
def Zzy(A:Ar)(K:KT)(F:FT)(ms ks rs ms1 ks1 rs1:List AV):Prop:=bB (A.not (A.eq (A.int (A.lenA ms)) (A.int (A.lenA ms1)))) (rB [A.not false] (F (AV.bool false) (none))) (K (Zjz (ms) (ks) (rs) (ms1) (ks1) (rs1) (0)))
theorem ZFr{A:Ar}{K:KT}{F:FT}{M:MT}{ms ks rs ms1 ks1 rs1:List AV} :ZaG A tab Ls2 64 K F M (.run 27 (.tf (.run 8 (.ty (.ty (.ty (.ty (.ty (.ty (.ty (.ty (.run 1 (.ty (.ty (.ty (.ty (.ty (.ty (.ty (.ty (.run 2 (.ty (.run 5 (.fn)))))))))))))))))))))) (.run 9 (.hd)))) (ZLk ms ks rs ms1 ks1 rs1) []=Zzy A K F ms ks rs ms1 ks1 rs1:=by kernel_rfl
def ZbM(A:Ar)(K:KT)(F:FT)(ms ks rs ms1 ks1 rs1:List AV)(n0:Int):Prop:=bB (A.lt n0 (A.int (A.lenA ms))) (rB [Zae (Zae (A.le 0 n0) (Nat.blt (A.nat n0) (A.lenA ms1))) true,Zae (Zae (A.le 0 n0) (Nat.blt (A.nat n0) (A.lenA ms))) true] (bB (A.not (A.eqS (AV.toS (A.nthA ms (A.nat n0))) (AV.toS (A.nthA ms1 (A.nat n0))))) (rB [A.not false] (F (AV.bool false) (none))) (rB [A.inR .i64 (A.add n0 1)] (K (Zjz (ms) (ks) (rs) (ms1) (ks1) (rs1) (A.add n0 1)))))) (rB [!A.not true] (bB (A.not (A.eq (A.int (A.lenA ks)) (A.int (A.lenA ks1)))) (F (AV.bool false) (none)) (bB (A.not (A.eq (A.int (A.lenA rs)) (A.int (A.lenA rs1)))) (F (AV.bool false) (none)) (K (ZkR (ms) (ks) (rs) (ms1) (ks1) (rs1) (0))))))
theorem Zju{A:Ar}{K:KT}{F:FT}{M:MT}{ms ks rs ms1 ks1 rs1:List AV}{n0:Int} :ZaG A tab Ls2 64 K F M (.run 9 (.tf (.run 6 (.tf (.run 8 (.ty (.ty (.ty (.ty (.ty (.ty (.ty (.ty (.run 1 (.ty (.ty (.ty (.ty (.ty (.ty (.ty (.ty (.run 2 (.ty (.run 5 (.fn)))))))))))))))))))))) (.run 9 (.hd)))) (.run 9 (.fy (.fy (.fy (.fy (.fy (.fy (.fy (.fy (.run 1 (.tf (.ty (.ty (.ty (.ty (.ty (.ty (.ty (.run 2 (.ty (.run 5 (.fn))))))))))) (.fy (.fy (.fy (.fy (.fy (.fy (.fy (.run 2 (.tf (.run 5 (.fn)) (.run 9 (.hd)))))))))))))))))))))))) (Zgr ms ks rs ms1 ks1 rs1 n0) (Zfn ms ks rs ms1 ks1 rs1 n0)=ZbM A K F ms ks rs ms1 ks1 rs1 n0:=by kernel_rfl
def ZeM(A:Ar)(K:KT)(F:FT)(ms ks rs ms1 ks1 rs1:List AV)(n1:Int):Prop:=bB (A.lt n1 (A.int (A.lenA ks))) (rB [Zae (Zae (A.le 0 n1) (Nat.blt (A.nat n1) (A.lenA ks1))) true,Zae (Zae (A.le 0 n1) (Nat.blt (A.nat n1) (A.lenA ks))) true] (bB (A.not (Zae (A.eqS ((A.nthA ks (A.nat n1)).cellAt 0).toS ((A.nthA ks1 (A.nat n1)).cellAt 0).toS) (A.eq ((A.nthA ks (A.nat n1)).cellAt 1).toI ((A.nthA ks1 (A.nat n1)).cellAt 1).toI))) (F (AV.bool false) (none)) (rB [A.inR .i64 (A.add n1 1)] (K (ZkR (ms) (ks) (rs) (ms1) (ks1) (rs1) (A.add n1 1)))))) (K (Zj9 (ms) (ks) (rs) (ms1) (ks1) (rs1) (0)))
theorem Zks{A:Ar}{K:KT}{F:FT}{M:MT}{ms ks rs ms1 ks1 rs1:List AV}{n1:Int} :ZaG A tab Ls2 64 K F M (.run 10 (.tf (.run 6 (.tf (.run 5 (.fn)) (.run 9 (.hd)))) (.run 9 (.hd)))) (Zi7 ms ks rs ms1 ks1 rs1 n1) (Zgm ms ks rs ms1 ks1 rs1 n1)=ZeM A K F ms ks rs ms1 ks1 rs1 n1:=by kernel_rfl
def ZeK(A:Ar)(K:KT)(F:FT)(ms ks rs ms1 ks1 rs1:List AV)(n2:Int):Prop:=bB (A.lt n2 (A.int (A.lenA rs))) (rB [Zae (Zae (A.le 0 n2) (Nat.blt (A.nat n2) (A.lenA rs1))) true,Zae (Zae (A.le 0 n2) (Nat.blt (A.nat n2) (A.lenA rs))) true] (bB (A.not (Zae (A.eqS ((A.nthA rs (A.nat n2)).cellAt 0).toS ((A.nthA rs1 (A.nat n2)).cellAt 0).toS) (Zae (A.eq ((A.nthA rs (A.nat n2)).cellAt 1).toI ((A.nthA rs1 (A.nat n2)).cellAt 1).toI) (Zae (A.eq ((A.nthA rs (A.nat n2)).cellAt 2).toI ((A.nthA rs1 (A.nat n2)).cellAt 2).toI) (Zae (A.eq ((A.nthA rs (A.nat n2)).cellAt 3).toI ((A.nthA rs1 (A.nat n2)).cellAt 3).toI) (A.eq ((A.nthA rs (A.nat n2)).cellAt 4).toI ((A.nthA rs1 (A.nat n2)).cellAt 4).toI)))))) (F (AV.bool false) (none)) (rB [A.inR .i64 (A.add n2 1)] (K (Zj9 (ms) (ks) (rs) (ms1) (ks1) (rs1) (A.add n2 1)))))) (F (AV.bool true) (none))
theorem Zk5{A:Ar}{K:KT}{F:FT}{M:MT}{ms ks rs ms1 ks1 rs1:List AV}{n2:Int} :ZaG A tab Ls2 64 K F M (.run 10 (.tf (.run 6 (.tf (.run 5 (.fn)) (.run 9 (.hd)))) (.run 6 (.fn)))) (ZjD ms ks rs ms1 ks1 rs1 n2) (ZgS ms ks rs ms1 ks1 rs1 n2)=ZeK A K F ms ks rs ms1 ks1 rs1 n2:=by kernel_rfl
end Go.Proofs.YtkeoeooghhjibaaGreatDoor
