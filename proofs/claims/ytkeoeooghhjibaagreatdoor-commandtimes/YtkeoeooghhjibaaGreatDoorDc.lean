/- Contracts as a list. No condition. -/
import Derived.Test.YtkeoeooghhjibaaGreatDoorCz0
import Derived.KernelRfl
namespace Go.Proofs.YtkeoeooghhjibaaGreatDoor
def ZpP(rs:List AV)(b:Int)(xs:List Int)(d e:Int):Bool:=Zba rs b xs&&((List.range rs.length).all fun i=>decide (1≤Zag rs i 4∧Zag rs i 4≤1000000∧Zau rs i≠[]))&&decide (0≤d∧d≤1000000000000∧e≤1000000000000)
theorem ZcB{rs:List AV}{b:Int}{xs:List Int}{d e:Int}(h:ZpP rs b xs d e=true):Zba rs b xs=true∧(∀i<rs.length,1≤Zag rs i 4∧Zag rs i 4≤1000000∧Zau rs i≠[])∧0≤d∧d≤1000000000000∧e≤1000000000000:=by
 simp only[ZpP,Bool.and_eq_true,List.all_eq_true,decide_eq_true_eq,List.mem_range]at h
 exact⟨h.1.1,h.1.2,h.2⟩
theorem ZiE{rs:List AV}{b t:Int}{xs:List Int}(h:Zba rs b xs=true)(h1:b≤t)(h2:t≤1000000000000):Zba rs t xs=true:=by
 simp only[Zba,Bool.and_eq_true,List.all_eq_true,decide_eq_true_eq,List.mem_range]at h⊢
 exact⟨⟨h.1.1,fun x hx=>by have:=h.1.2 x hx;omega⟩,by omega,h2,h.2.2.2⟩
theorem Zku{rs:List AV}{b:Int}{xs:List Int}(h:Zba rs b xs=true):rs.length≤1000000:=by
 simp only[Zba,Bool.and_eq_true,decide_eq_true_eq]at h
 exact h.2.2.2
def prB(p:Int×Bool):AV:=.tup [.int .i64 p.1, .bool p.2]
section
variable {C:Ctx}(hC:C.P=Tryz.prog)(ms ks rs:List AV)(a b:Int)(xs:List Int)(c d e:Int)(hg:ZpP rs b xs d e=true)
include hC hg
theorem ZrM(L:List Int)(hL:L.length≤2000000):∀(m i:Nat) (n:Int) (fd:Bool),i+m=L.length→Ev C (ZcQ ms ks rs a b xs c d e L n fd i) (Zcq ms ks rs a b xs c d e L n fd i) (Zb3 124 (prB (ZbP (Zbt rs a b xs c d e) (L.drop i) n fd)) none)
 |0,i,n,fd,hk=>tgo hC ZbL ZfX (by
  rw[List.drop_of_length_le (by omega)]
  simp[ZaZ,show ¬(i:Int)<L.length by omega,ZbP,prB])
 |m+1,i,n,fd,hk=>by
  have ih:=fun n' fd'=>ZrM L hL m (i+1) n' fd' (by omega)
  have hlt:(i:Int)<L.length:=by omega
  have hlt2:i<L.length:=by omega
  obtain⟨g1,g2,g3⟩:=ZcB hg
  rw[ZqE hlt2,ZbP]
  obtain⟨t,ht⟩:∃t,t=L.getD i 0:=⟨_,rfl⟩
  rw[←ht]
  have hfn:=ZhK (a:=a) (t:=t) (xs:=xs) (c:=c) fun j hj=>(g2 j hj).2.2
  have r1: -9223372036854775808≤(i:Int)+1∧(i:Int)+1≤9223372036854775807:=by omega
  have ih1:∀n' fd',Ev C (ZcQ ms ks rs a b xs c d e L n' fd' (i+1)) (Zcq ms ks rs a b xs c d e L n' fd' (i+1)) (Zb3 124 (prB (ZbP (Zbt rs a b xs c d e) (L.drop (i+1)) n' fd')) none):=ih
  refine tgo hC ZbL ZfX ?_
  by_cases h1:b≤t
  ·by_cases h2:Zae t d e=true
   ·have h2':=within_iff.1 h2
    have hgt:=ZiE g1 h1 (by omega:t≤1000000000000)
    by_cases h3:ZcI rs a t xs c=true
    ·have hf:Zbt rs a b xs c d e t=true:=by simp[Zbt,h1,h2,h3]
     have h3':=hfn.2 h3
     cases fd
     ·simp[-List.getD_eq_getElem?_getD,ZaZ,hlt,hlt2,←ht,h1,h2,hgt,h3',hf,r1,ih1]
     ·by_cases h5:t<n
      ·simp[-List.getD_eq_getElem?_getD,ZaZ,hlt,hlt2,←ht,h1,h2,hgt,h3',hf,h5,r1,ih1]
      ·simp[-List.getD_eq_getElem?_getD,ZaZ,hlt,hlt2,←ht,h1,h2,hgt,h3',h5,r1,ih1]
    ·have hf:Zbt rs a b xs c d e t=false:=by simp[Zbt,h3]
     have h3':¬Zc7 rs a t xs c rs.length 0=[]:=fun h=>h3 (hfn.1 h)
     simp[-List.getD_eq_getElem?_getD,ZaZ,hlt,hlt2,←ht,h1,h2,hgt,h3',hf,r1,ih1]
   ·have hf:Zbt rs a b xs c d e t=false:=by simp[Zbt,h2]
    simp[-List.getD_eq_getElem?_getD,ZaZ,hlt,hlt2,←ht,h1,h2,hf,r1,ih1]
  ·have hf:Zbt rs a b xs c d e t=false:=by simp[Zbt,h1]
   simp[-List.getD_eq_getElem?_getD,ZaZ,hlt,hlt2,←ht,h1,hf,r1,ih1]
theorem ZrN(L:List Int)(hL:L.length≤2000000):∀(m i:Nat) (n:Int) (fd:Bool),i+m=L.length→Ev C (ZcP ms ks rs a b xs c d e L n fd i) (Zcm ms ks rs a b xs c d e L n fd i) (Zb3 124 (prB (ZbP (Zbt rs a b xs c d e) (L.drop i) n fd)) none)
 |0,i,n,fd,hk=>tgo hC ZbL ZfR (by
  rw[List.drop_of_length_le (by omega)]
  simp[ZaY,show ¬(i:Int)<L.length by omega,ZbP,prB])
 |m+1,i,n,fd,hk=>by
  have ih:=fun n' fd'=>ZrN L hL m (i+1) n' fd' (by omega)
  have hlt:(i:Int)<L.length:=by omega
  have hlt2:i<L.length:=by omega
  obtain⟨g1,g2,g3⟩:=ZcB hg
  rw[ZqE hlt2,ZbP]
  obtain⟨t,ht⟩:∃t,t=L.getD i 0:=⟨_,rfl⟩
  rw[←ht]
  have hfn:=ZhK (a:=a) (t:=t) (xs:=xs) (c:=c) fun j hj=>(g2 j hj).2.2
  have r1: -9223372036854775808≤(i:Int)+1∧(i:Int)+1≤9223372036854775807:=by omega
  have ih1:∀n' fd',Ev C (ZcP ms ks rs a b xs c d e L n' fd' (i+1)) (Zcm ms ks rs a b xs c d e L n' fd' (i+1)) (Zb3 124 (prB (ZbP (Zbt rs a b xs c d e) (L.drop (i+1)) n' fd')) none):=ih
  refine tgo hC ZbL ZfR ?_
  by_cases h1:b≤t
  ·by_cases h2:Zae t d e=true
   ·have h2':=within_iff.1 h2
    have hgt:=ZiE g1 h1 (by omega:t≤1000000000000)
    by_cases h3:ZcI rs a t xs c=true
    ·have hf:Zbt rs a b xs c d e t=true:=by simp[Zbt,h1,h2,h3]
     have h3':=hfn.2 h3
     cases fd
     ·simp[-List.getD_eq_getElem?_getD,ZaY,hlt,hlt2,←ht,h1,h2,hgt,h3',hf,r1,ih1]
     ·by_cases h5:t<n
      ·simp[-List.getD_eq_getElem?_getD,ZaY,hlt,hlt2,←ht,h1,h2,hgt,h3',hf,h5,r1,ih1]
      ·simp[-List.getD_eq_getElem?_getD,ZaY,hlt,hlt2,←ht,h1,h2,hgt,h3',h5,r1,ih1]
    ·have hf:Zbt rs a b xs c d e t=false:=by simp[Zbt,h3]
     have h3':¬Zc7 rs a t xs c rs.length 0=[]:=fun h=>h3 (hfn.1 h)
     simp[-List.getD_eq_getElem?_getD,ZaY,hlt,hlt2,←ht,h1,h2,hgt,h3',hf,r1,ih1]
   ·have hf:Zbt rs a b xs c d e t=false:=by simp[Zbt,h2]
    simp[-List.getD_eq_getElem?_getD,ZaY,hlt,hlt2,←ht,h1,h2,hf,r1,ih1]
  ·have hf:Zbt rs a b xs c d e t=false:=by simp[Zbt,h1]
   simp[-List.getD_eq_getElem?_getD,ZaY,hlt,hlt2,←ht,h1,hf,r1,ih1]
theorem ZrS:∀(m i:Nat) (L:List Int),i+m=rs.length→L.length≤i+2→Ev C (Zer ms ks rs a b xs c d e i L) (ZdC ms ks rs a b xs c d e i L) (Zb3 124 (prB (ZbP (Zbt rs a b xs c d e) (L++Zgd rs xs m i) 0 false)) none)
 |0,i,L,hk,hL=>tgo hC ZbL ZfG (by
  have hr:=(Zku (ZcB hg).1)
  have:=ZrN hC ms ks rs a b xs c d e hg L (by omega) L.length 0 0 false (by omega)
  simp[ZbQ,show ¬(i:Int)<rs.length by omega,Zgd]
  simpa using this)
 |m+1,i,L,hk,hL=>by
  have hlt:(i:Int)<rs.length:=by omega
  have hlt2:i<rs.length:=by omega
  have e3:((rs.getD i .top).cellAt 3).toI=Zag rs i 3:=rfl
  have e4:((rs.getD i .top).cellAt 4).toI=Zag rs i 4:=rfl
  obtain⟨g1,g2,g3⟩:=ZcB hg
  have g:=Zgs g1 hlt2
  have g2:=g2 i hlt2
  have ih:=fun L' h=>ZrS m (i+1) L' (by omega) h
  refine tgo hC ZbL ZfG ?_
  rw[Zgd]
  by_cases h3:Zag rs i 3= -1
  ·rw[if_neg (fun h=>h.1 h3)]
   simp[-List.getD_eq_getElem?_getD,ZbQ,hlt,hlt2,e3,e4,h3]
   exact⟨by omega,ih L (by omega)⟩
  ·by_cases h5:xs.getD (Zag rs i 3).toNat 0= -1
   ·rw[if_neg (fun h=>h.2 h5)]
    simp[-List.getD_eq_getElem?_getD,ZbQ,hlt,hlt2,e3,e4,h3,h5,show(0:Int)≤Zag rs i 3 by omega,show(Zag rs i 3).toNat<xs.length by omega]
    exact⟨by omega,ih L (by omega)⟩
   ·rw[if_pos ⟨h3,h5⟩]
    have:=ih (L++[Zjr rs xs i]) (by simp;omega)
    rw[List.append_assoc]at this
    simp[-List.getD_eq_getElem?_getD,ZbQ,hlt,hlt2,e3,e4,h3,h5,show(0:Int)≤Zag rs i 3 by omega,show(Zag rs i 3).toNat<xs.length by omega,AV.bx,Zai]
    exact⟨by omega,this⟩
theorem ZrG:∀(m i:Nat) (L:List Int),i+m=rs.length→L.length≤i+2→Ev C (Zec ms ks rs a b xs c d e L i) (Zdg ms ks rs a b xs c d e L i) (Zb3 124 (prB (ZbP (Zbt rs a b xs c d e) (L++Zgd rs xs m i) 0 false)) none)
 |0,i,L,hk,hL=>tgo hC ZbL Zf8 (by
  have hr:=(Zku (ZcB hg).1)
  have:=ZrM hC ms ks rs a b xs c d e hg L (by omega) L.length 0 0 false (by omega)
  simp[ZbN,show ¬(i:Int)<rs.length by omega,Zgd]
  simpa using this)
 |m+1,i,L,hk,hL=>by
  have hlt:(i:Int)<rs.length:=by omega
  have hlt2:i<rs.length:=by omega
  have e3:((rs.getD i .top).cellAt 3).toI=Zag rs i 3:=rfl
  have e4:((rs.getD i .top).cellAt 4).toI=Zag rs i 4:=rfl
  obtain⟨g1,g2,g3⟩:=ZcB hg
  have g:=Zgs g1 hlt2
  have g2:=g2 i hlt2
  have ih:=fun L' h=>ZrG m (i+1) L' (by omega) h
  refine tgo hC ZbL Zf8 ?_
  rw[Zgd]
  by_cases h3:Zag rs i 3= -1
  ·rw[if_neg (fun h=>h.1 h3)]
   simp[-List.getD_eq_getElem?_getD,ZbN,hlt,hlt2,e3,e4,h3]
   exact⟨by omega,ih L (by omega)⟩
  ·by_cases h5:xs.getD (Zag rs i 3).toNat 0= -1
   ·rw[if_neg (fun h=>h.2 h5)]
    simp[-List.getD_eq_getElem?_getD,ZbN,hlt,hlt2,e3,e4,h3,h5,show(0:Int)≤Zag rs i 3 by omega,show(Zag rs i 3).toNat<xs.length by omega]
    exact⟨by omega,ih L (by omega)⟩
   ·rw[if_pos ⟨h3,h5⟩]
    have:=ZrS hC ms ks rs a b xs c d e hg m (i+1) (L++[Zjr rs xs i]) (by omega) (by simp;omega)
    rw[List.append_assoc]at this
    simp[-List.getD_eq_getElem?_getD,ZbN,hlt,hlt2,e3,e4,h3,h5,show(0:Int)≤Zag rs i 3 by omega,show(Zag rs i 3).toNat<xs.length by omega,AV.bx,Zai]
    exact⟨by omega,this⟩
end
def Zjq(rs:List AV)(a b:Int)(xs:List Int)(c d:Int):Int:=Zbw rs a xs c rs.length 0 (max b d)
def ZnT(rs:List AV)(a b:Int)(xs:List Int)(c d e:Int):Bool:=Zh5 rs a (Zjq rs a b xs c d) xs c d e
def Zjt(rs:List AV)(a b:Int)(xs:List Int)(c d e:Int):Int:=if ZnT rs a b xs c d e=true then Zjq rs a b xs c d else 0
theorem Zn8(ms ks rs:List AV)(a b:Int)(xs:List Int)(c d e:Int)(hg:ZpP rs b xs d e=true):Zan Tryz.prog 124 [.agg (.gen [.list (.big .str ms), .list (.big (.agg [.str, .int .i64]) ks), .list (.big (.agg [.str, .int .i64, .int .i64, .int .i64, .int .i64]) rs)]), .agg (.gen [.int .i64 a, .int .i64 b, .list (.ints .i64 xs)]), .agg (.gen [.int .i64 c, .int .i64 d, .int .i64 e])] (.tup [.int .i64 (Zjt rs a b xs c d e), .bool (ZnT rs a b xs c d e)]) none:=
 start (Zqj ms ks rs a b xs c d e) fun C hC=>tgo hC ZbL ZAv (by
  have:=ZrG hC ms ks rs a b xs c d e hg rs.length 0 [b,d] (by omega) (by simp)
  rw[ZoG]at this
  simp only[ZrP,bxA,Zty,Zhp,ZqV,true_and]
  unfold Zjt ZnT Zjq
  cases h:Zh5 rs a (Zbw rs a xs c rs.length 0 (max b d)) xs c d e<;>(rw [h]at this;simpa[prB]using this))
def k124:Ctr:=⟨124,0,fun _ a=>match a with |[.agg (.gen [.list (.big .str _), .list (.big (.agg [.str, .int .i64]) _), .list (.big (.agg [.str, .int .i64, .int .i64, .int .i64, .int .i64]) rs)]), .agg (.gen [.int .i64 a, .int .i64 b, .list (.ints .i64 xs)]), .agg (.gen [.int .i64 c, .int .i64 d, .int .i64 e])]=>some (decide (ZpP rs b xs d e=true), .tup [.int .i64 (Zjt rs a b xs c d e), .bool (ZnT rs a b xs c d e)],none) |_=>none⟩
theorem Zto:k124.OK Tryz.prog:=fun pa args r fr h=>by
 simp only[k124]at h
 split at h
 ·simp only[Option.some.injEq,Prod.mk.injEq,decide_eq_true_eq]at h
  obtain⟨h0,rfl,rfl⟩:=h
  exact Zn8 _ _ _ _ _ _ _ _ _ h0
 ·cases h
def Bg:List Ctr:=[k124]++Bf
theorem ZnX:ZaK Tryz.prog Bg:=⟨Zto,ZBP⟩
end Go.Proofs.YtkeoeooghhjibaaGreatDoor
/- Paths of functions, printed by the explorer (Gx). No condition. -/
namespace Go.Proofs.YtkeoeooghhjibaaGreatDoor
set_option maxRecDepth 100000
set_option linter.unusedVariables false
def ZzS(ms ks rs:List AV)(a b:Int)(xs:List Int)(l:List AV):AFrame:={ fn:=79,N:=44,env:=[(0,AV.agg (Row.gen [.list (Row.big .str ms), .list (Row.big (.agg [.str, .int .i64]) ks), .list (Row.big (.agg [.str, .int .i64, .int .i64, .int .i64, .int .i64]) rs)])),(1,AV.agg (Row.gen [.int .i64 a, .int .i64 b, .list (.ints .i64 xs)])),(2,AV.list (Row.big (.agg [.int .i64, .int .i64, .int .i64]) l))],todo:=[.code a79.code],defs:=[],rnd:=none,ret:=false,res:=[ARes.tmp 6,ARes.tmp 7] }
def ZGv(ms ks rs:List AV)(a b:Int)(xs:List Int)(l:List AV):List AFrame:=[(ZzS ms ks rs a b xs l)]
theorem ZtB(ms ks rs:List AV)(a b:Int)(xs:List Int)(l:List AV):Zat tab 79 [AV.agg (Row.gen [.list (Row.big .str ms), .list (Row.big (.agg [.str, .int .i64]) ks), .list (Row.big (.agg [.str, .int .i64, .int .i64, .int .i64, .int .i64]) rs)]),AV.agg (Row.gen [.int .i64 a, .int .i64 b, .list (.ints .i64 xs)]),AV.list (Row.big (.agg [.int .i64, .int .i64, .int .i64]) l)]=some (ZzS ms ks rs a b xs l):=rfl
def ZkB(ms ks rs:List AV)(a b:Int)(xs:List Int)(l:List AV):List AFrame:=[{ fn:=79,N:=44,env:=[(2,AV.list (Row.big (.agg [.int .i64, .int .i64, .int .i64]) l)),(3,AV.ptr 79004 0 0 0),(4,AV.ptr 79005 0 0 0),(8,AV.nils),(9,AV.int .i64 0)],todo:=.code (ACode.gh [] ZuX)::ZAM,defs:=[],rnd:=none,ret:=false,res:=[ARes.tmp 6,ARes.tmp 7] }]
def Zic(ms ks rs:List AV)(a b:Int)(xs:List Int)(l:List AV):Zab:=[(79004,{ base:=0,blks:=[Blk.row 26 3 (Row.gen [AV.agg (Row.gen [AV.list (Row.big .str ms),AV.list (Row.big (.agg [.str, .int .i64]) ks),AV.list (Row.big (.agg [.str, .int .i64, .int .i64, .int .i64, .int .i64]) rs)])])] }),(79005,{ base:=0,blks:=[Blk.row 76 3 (Row.gen [AV.agg (Row.gen [AV.int .i64 a,AV.int .i64 b,AV.list (.ints .i64 xs)])])] })]
abbrev ZnJ(ms ks rs:List AV)(a b:Int)(xs:List Int)(l:List AV):List AFrame×Zab:=(ZkB ms ks rs a b xs l,Zic ms ks rs a b xs l)
def Zhb(ms ks rs l:List AV)(n0 n1 n2:Int)(l3 l4:List Int):List AFrame:=[{ fn:=79,N:=44,env:=[(2,AV.list (Row.big (.agg [.int .i64, .int .i64, .int .i64]) l)),(3,AV.ptr 79004 0 0 0),(4,AV.ptr 79005 0 0 0),(8,AV.row 79034 0),(9,AV.int .i64 n0)],todo:=.code (ACode.gh [] ZuX)::ZAM,defs:=[],rnd:=none,ret:=false,res:=[ARes.tmp 6,ARes.tmp 7] }]
def Zfs(ms ks rs l:List AV)(n0 n1 n2:Int)(l3 l4:List Int):Zab:=[(79004,{ base:=0,blks:=[Blk.row 26 3 (Row.gen [AV.agg (Row.gen [AV.list (Row.big .str ms),AV.list (Row.big (.agg [.str, .int .i64]) ks),AV.list (Row.big (.agg [.str, .int .i64, .int .i64, .int .i64, .int .i64]) rs)])])] }),(79005,{ base:=0,blks:=[Blk.row 76 3 (Row.gen [AV.agg (Row.gen [AV.int .i64 n1,AV.int .i64 n2,AV.list (.ints .i64 l3)])])] }),(79034,{ base:=0,blks:=[Blk.row 3 1 (.ints .i64 l4)] })]
abbrev ZhS(ms ks rs l:List AV)(n0 n1 n2:Int)(l3 l4:List Int):List AFrame×Zab:=(Zhb ms ks rs l n0 n1 n2 l3 l4,Zfs ms ks rs l n0 n1 n2 l3 l4)
def Zxk(A:Ar)(K:KT)(F:FT)(ms ks rs:List AV)(a b:Int)(xs:List Int)(l:List AV):Prop:=K (ZnJ (ms) (ks) (rs) (a) (b) (xs) (l))
theorem ZCQ{A:Ar}{K:KT}{F:FT}{M:MT}{ms ks rs:List AV}{a b:Int}{xs:List Int}{l:List AV} :ZaI A tab Bg 79 K F M (.run 19 (.hd)) (ZGv ms ks rs a b xs l) []=Zxk A K F ms ks rs a b xs l:=by kernel_rfl
def ZdT(A:Ar)(K:KT)(F:FT)(ms ks rs:List AV)(a b:Int)(xs:List Int)(l:List AV):Prop:=bB (A.lt 0 (A.int (A.lenA l))) (rB [decide (ZpP rs b xs ((A.nthA l (A.nat 0)).cellAt 1).toI ((A.nthA l (A.nat 0)).cellAt 2).toI=true),Zaf (Zaf (A.le 0 0) (Nat.blt (A.nat 0) (A.lenA l))) true] (bB (A.not (ZnT rs a b xs ((A.nthA l (A.nat 0)).cellAt 0).toI ((A.nthA l (A.nat 0)).cellAt 1).toI ((A.nthA l (A.nat 0)).cellAt 2).toI)) (F (AV.tup [AV.nils,AV.bool false]) (none)) (rB [A.inR .i64 (A.add 0 1),decide (List.length xs≤1000000∧0≤AV.toI (AV.cellAt (A.nthA l (A.nat 0)) 0)∧AV.toI (AV.cellAt (A.nthA l (A.nat 0)) 0)< ↑(List.length ks)∧AV.toI (AV.cellAt (A.nthA l (A.nat 0)) 0)< ↑(List.length xs)),Zaf (Zaf (A.le 0 0) (Nat.blt (A.nat 0) (A.lenA l))) true,Zaf (Nat.ble (A.len [Zjt rs a b xs ((A.nthA l (A.nat 0)).cellAt 0).toI ((A.nthA l (A.nat 0)).cellAt 1).toI ((A.nthA l (A.nat 0)).cellAt 2).toI]) 4294967296) (Nat.blt 0 (A.len [Zjt rs a b xs ((A.nthA l (A.nat 0)).cellAt 0).toI ((A.nthA l (A.nat 0)).cellAt 1).toI ((A.nthA l (A.nat 0)).cellAt 2).toI])),List.all [AV.int .i64 (Zjt rs a b xs ((A.nthA l (A.nat 0)).cellAt 0).toI ((A.nthA l (A.nat 0)).cellAt 1).toI ((A.nthA l (A.nat 0)).cellAt 2).toI)] fun x=>AV.bx x&&Nat.beq (Zai A x) 1] (K (ZhS (ms) (ks) (rs) (l) (A.add 0 1) (exM ks a ((A.nthA l (A.nat 0)).cellAt 0).toI) (Zjt rs a b xs ((A.nthA l (A.nat 0)).cellAt 0).toI ((A.nthA l (A.nat 0)).cellAt 1).toI ((A.nthA l (A.nat 0)).cellAt 2).toI) (List.set xs (Int.toNat ((A.nthA l (A.nat 0)).cellAt 0).toI) (Zjt rs a b xs ((A.nthA l (A.nat 0)).cellAt 0).toI ((A.nthA l (A.nat 0)).cellAt 1).toI ((A.nthA l (A.nat 0)).cellAt 2).toI)) ([Zjt rs a b xs ((A.nthA l (A.nat 0)).cellAt 0).toI ((A.nthA l (A.nat 0)).cellAt 1).toI ((A.nthA l (A.nat 0)).cellAt 2).toI])))))) (F (AV.tup [AV.nils,AV.bool true]) (none))
theorem Znh{A:Ar}{K:KT}{F:FT}{M:MT}{ms ks rs:List AV}{a b:Int}{xs:List Int}{l:List AV} :ZaI A tab Bg 79 K F M (.run 9 (.tf (.run 12 (.tf (.run 6 (.fn)) (.run 18 (.hd)))) (.run 8 (.fn)))) (ZkB ms ks rs a b xs l) (Zic ms ks rs a b xs l)=ZdT A K F ms ks rs a b xs l:=by kernel_rfl
def Zd6(A:Ar)(K:KT)(F:FT)(ms ks rs l:List AV)(n0 n1 n2:Int)(l3 l4:List Int):Prop:=bB (A.lt n0 (A.int (A.lenA l))) (rB [decide (ZpP rs n2 l3 ((A.nthA l (A.nat n0)).cellAt 1).toI ((A.nthA l (A.nat n0)).cellAt 2).toI=true),Zaf (Zaf (A.le 0 n0) (Nat.blt (A.nat n0) (A.lenA l))) true] (bB (A.not (ZnT rs n1 n2 l3 ((A.nthA l (A.nat n0)).cellAt 0).toI ((A.nthA l (A.nat n0)).cellAt 1).toI ((A.nthA l (A.nat n0)).cellAt 2).toI)) (F (AV.tup [AV.nils,AV.bool false]) (none)) (rB [A.inR .i64 (A.add n0 1),decide (List.length l3≤1000000∧0≤AV.toI (AV.cellAt (A.nthA l (A.nat n0)) 0)∧AV.toI (AV.cellAt (A.nthA l (A.nat n0)) 0)< ↑(List.length ks)∧AV.toI (AV.cellAt (A.nthA l (A.nat n0)) 0)< ↑(List.length l3)),Zaf (Zaf (A.le 0 n0) (Nat.blt (A.nat n0) (A.lenA l))) true,Nat.ble (A.len l4+A.len [Zjt rs n1 n2 l3 ((A.nthA l (A.nat n0)).cellAt 0).toI ((A.nthA l (A.nat n0)).cellAt 1).toI ((A.nthA l (A.nat n0)).cellAt 2).toI]) 4294967296,List.all [AV.int .i64 (Zjt rs n1 n2 l3 ((A.nthA l (A.nat n0)).cellAt 0).toI ((A.nthA l (A.nat n0)).cellAt 1).toI ((A.nthA l (A.nat n0)).cellAt 2).toI)] fun x=>AV.bx x&&Nat.beq (Zai A x) 1] (K (ZhS (ms) (ks) (rs) (l) (A.add n0 1) (exM ks n1 ((A.nthA l (A.nat n0)).cellAt 0).toI) (Zjt rs n1 n2 l3 ((A.nthA l (A.nat n0)).cellAt 0).toI ((A.nthA l (A.nat n0)).cellAt 1).toI ((A.nthA l (A.nat n0)).cellAt 2).toI) (List.set l3 (Int.toNat ((A.nthA l (A.nat n0)).cellAt 0).toI) (Zjt rs n1 n2 l3 ((A.nthA l (A.nat n0)).cellAt 0).toI ((A.nthA l (A.nat n0)).cellAt 1).toI ((A.nthA l (A.nat n0)).cellAt 2).toI)) (A.app l4 [Zjt rs n1 n2 l3 ((A.nthA l (A.nat n0)).cellAt 0).toI ((A.nthA l (A.nat n0)).cellAt 1).toI ((A.nthA l (A.nat n0)).cellAt 2).toI])))))) (F (AV.tup [AV.row 0 0,AV.bool true]) (some { e:=3,sz:=1,r:=.ints .i64 l4 }))
theorem Zio{A:Ar}{K:KT}{F:FT}{M:MT}{ms ks rs l:List AV}{n0 n1 n2:Int}{l3 l4:List Int} :ZaI A tab Bg 79 K F M (.run 9 (.tf (.run 12 (.tf (.run 6 (.fn)) (.run 18 (.hd)))) (.run 8 (.fn)))) (Zhb ms ks rs l n0 n1 n2 l3 l4) (Zfs ms ks rs l n0 n1 n2 l3 l4)=Zd6 A K F ms ks rs l n0 n1 n2 l3 l4:=by kernel_rfl
end Go.Proofs.YtkeoeooghhjibaaGreatDoor
/- Contracts as a list. No condition. -/
namespace Go.Proofs.YtkeoeooghhjibaaGreatDoor
def tfG(ks rs l:List AV)(b:Int)(xs:List Int):Bool:=Zba rs b xs&&((List.range rs.length).all fun i=>decide (1≤Zag rs i 4∧Zag rs i 4≤1000000∧Zau rs i≠[]))&&((List.range l.length).all fun i=>decide ((0≤Zag l i 0∧Zag l i 0<ks.length)∧(0≤Zag l i 1∧Zag l i 1≤1000000000000)∧Zag l i 2≤1000000000000))&&decide (xs.length=ks.length∧xs.length≤1000000∧l.length≤1000000)
structure OkX (ks rs l:List AV) (b:Int) (xs:List Int):Prop where
 forb:Zba rs b xs=true
 rule:∀i<rs.length,1≤Zag rs i 4∧Zag rs i 4≤1000000∧Zau rs i≠[]
 act:∀i<l.length,(0≤Zag l i 0∧Zag l i 0<ks.length)∧(0≤Zag l i 1∧Zag l i 1≤1000000000000)∧Zag l i 2≤1000000000000
 len:xs.length=ks.length∧xs.length≤1000000∧l.length≤1000000
theorem tfG_iff{ks rs l:List AV}{b:Int}{xs:List Int} :tfG ks rs l b xs=true↔OkX ks rs l b xs:=by
 simp only[tfG,Bool.and_eq_true,List.all_eq_true,decide_eq_true_eq,List.mem_range]
 exact⟨fun h=>⟨h.1.1.1,h.1.1.2,h.1.2,h.2⟩,fun h=>⟨⟨⟨h.forb,h.rule⟩,h.act⟩,h.len⟩⟩
theorem OkX.ear{ks rs l:List AV}{b:Int}{xs:List Int}(h:OkX ks rs l b xs){i:Nat}(hi:i<l.length):ZpP rs b xs (Zag l i 1) (Zag l i 2)=true:=by
 simp only[ZpP,Bool.and_eq_true,List.all_eq_true,decide_eq_true_eq,List.mem_range]
 have:=h.act i hi
 exact⟨⟨h.forb,h.rule⟩,by omega⟩
theorem OkX.next{ks rs l:List AV}{b t:Int}{xs:List Int}(h:OkX ks rs l b xs)(h1:b≤t)(h2:t≤1000000000000)(k:Nat):OkX ks rs l t (xs.set k t):=by
 refine⟨?_,h.rule,h.act,by simpa using h.len⟩
 have hf:=h.forb
 simp only[Zba,Bool.and_eq_true,List.all_eq_true,decide_eq_true_eq,List.mem_range]at hf⊢
 refine⟨⟨fun i hi=>by simpa using hf.1.1 i hi,fun x hx=>?_⟩,by omega,h2,hf.2.2.2⟩
 rcases List.mem_or_eq_of_mem_set hx with hx |rfl
 ·have:=hf.1.2 x hx;omega
 ·omega
theorem Zih{rs:List AV}{a b:Int}{xs:List Int}{c d e:Int}(h:ZnT rs a b xs c d e=true):b≤Zjq rs a b xs c d∧Zjq rs a b xs c d≤e:=by
 unfold ZnT Zh5 at h
 simp only[Bool.and_eq_true,within_iff]at h
 have:=Zc4 rs a xs c rs.length 0 (max b d)
 have e1:Zjq rs a b xs c d=Zbw rs a xs c rs.length 0 (max b d):=rfl
 rw[e1]at h⊢
 omega
def Zwp(out:List Int):Option (List Int)→AV
 |some ts=>.tup [.list (.ints .i64 (out++ts)), .bool true]
 |none=>.tup [.list (.ints .i64 []), .bool false]
theorem Zjy(out:List Int)(t:Int)(o:Option (List Int)):Zwp out (o.map (t:: ·))=Zwp (out++[t]) o:=by
 cases o with
 |none=>rfl
 |some ts=>simp[Zwp]
theorem Zpf(c:Bool)(xs:List Int)(h:xs=[]):∃r'',Wk (.tup [.nils, .bool c]) r''∧Frz none r'' (.tup [.list (.ints .i64 xs), .bool c])∧Zgj none=false:=by
 subst h
 exact⟨_, .same _, .tup ⟨.nil _ rfl, .same _ rfl rfl,trivial⟩,rfl⟩
theorem Zzt(c:Bool)(xs ys:List Int)(h:xs=ys):∃r'',Wk (.tup [.row 0 0, .bool c]) r''∧Frz (some ⟨3,1, .ints .i64 xs⟩) r'' (.tup [.list (.ints .i64 ys), .bool c])∧Zgj (some ⟨3,1, .ints .i64 xs⟩)=false:=by
 subst h
 exact⟨_, .same _, .tup ⟨.row _ rfl rfl rfl, .same _ rfl rfl,trivial⟩,rfl⟩
section
variable {C:Ctx}(hC:C.P=Tryz.prog)(ms ks rs l:List AV)
include hC
theorem Zj1:∀(m i:Nat) (out xs:List Int) (a b:Int),i+m=l.length→out.length≤i→OkX ks rs l b xs→Ev C (Zhb ms ks rs l i a b xs out) (Zfs ms ks rs l i a b xs out) (ZmP 79 (Zwp out (ZaO ks rs l m i a b xs)))
 |0,i,out,xs,a,b,hk,ho,hX=>ZhP hC ZnX Zio (by
  simp only[Zd6,ZnP,Zr2,Zgc,Zc5,decide_eq_true_eq,if_neg (show ¬(i:Int)<l.length by omega)]
  exact Zzt true _ _ (by simp))
 |m+1,i,out,xs,a,b,hk,ho,hX=>by
  have hlt:(i:Int)<l.length:=by omega
  have hlt2:i<l.length:=by omega
  have e0:((l.getD i .top).cellAt 0).toI=Zag l i 0:=rfl
  have e1:((l.getD i .top).cellAt 1).toI=Zag l i 1:=rfl
  have e2:((l.getD i .top).cellAt 2).toI=Zag l i 2:=rfl
  have he:=hX.ear hlt2
  have ha:=hX.act i hlt2
  have hl:=hX.len
  have hst:Zd9 rs l a b xs i=Zjq rs a b xs (Zag l i 0) (Zag l i 1):=rfl
  have hac:Zh5 rs a (Zd9 rs l a b xs i) xs (Zag l i 0) (Zag l i 1) (Zag l i 2)=ZnT rs a b xs (Zag l i 0) (Zag l i 1) (Zag l i 2):=rfl
  refine ZhP hC ZnX Zio ?_
  rw[ZaO,hac,hst]
  by_cases hF:ZnT rs a b xs (Zag l i 0) (Zag l i 1) (Zag l i 2)=true
  ·have hb:=Zih hF
   have hv:Zjt rs a b xs (Zag l i 0) (Zag l i 1) (Zag l i 2)=Zjq rs a b xs (Zag l i 0) (Zag l i 1):=by unfold Zjt;rw[if_pos hF]
   rw[if_pos hF,Zjy]
   have ih:=Zj1 m (i+1) (out++[Zjq rs a b xs (Zag l i 0) (Zag l i 1)]) (xs.set (Zag l i 0).toNat (Zjq rs a b xs (Zag l i 0) (Zag l i 1))) (exM ks a (Zag l i 0)) (Zjq rs a b xs (Zag l i 0) (Zag l i 1)) (by omega) (by simp;omega) (hX.next hb.1 (by omega) _)
   simp[-List.getD_eq_getElem?_getD,Zd6,hlt,hlt2,e0,e1,e2,he,hF,hv,AV.bx,Zai]
   exact⟨by omega,by simpa using ih⟩
  ·rw[if_neg hF]
   simp[-List.getD_eq_getElem?_getD,Zd6,hlt,hlt2,e0,e1,e2,he,hF]
   exact Zpf false [] rfl
end
theorem ZoT(ms ks rs:List AV)(a b:Int)(xs:List Int)(l:List AV)(h:tfG ks rs l b xs=true):Zan Tryz.prog 79 [.agg (.gen [.list (.big .str ms), .list (.big (.agg [.str, .int .i64]) ks), .list (.big (.agg [.str, .int .i64, .int .i64, .int .i64, .int .i64]) rs)]), .agg (.gen [.int .i64 a, .int .i64 b, .list (.ints .i64 xs)]), .list (.big (.agg [.int .i64, .int .i64, .int .i64]) l)] (.tup [.list (.ints .i64 ((ZaO ks rs l l.length 0 a b xs).getD [])), .bool (ZaO ks rs l l.length 0 a b xs).isSome]) Zl2:=by
 have ew:AV.tup [.list (.ints .i64 ((ZaO ks rs l l.length 0 a b xs).getD [])), .bool (ZaO ks rs l l.length 0 a b xs).isSome]=Zwp [] (ZaO ks rs l l.length 0 a b xs):=by
  cases ZaO ks rs l l.length 0 a b xs<;>rfl
 rw[ew]
 refine Zmv (ZtB ms ks rs a b xs l) fun C hC=>ZhP hC ZnX ZCQ ?_
 have hX:=tfG_iff.1 h
 simp only[Zxk]
 refine ZhP hC ZnX Znh ?_
 by_cases h0:l.length=0
 ·simp[ZdT,h0,ZaO,Zwp]
  exact Zpf true [] rfl
 ·obtain⟨n,hn⟩:∃n,l.length=n+1:=⟨l.length-1,by omega⟩
  have hl0:0<l.length:=by omega
  have e0:((l.getD 0 .top).cellAt 0).toI=Zag l 0 0:=rfl
  have e1:((l.getD 0 .top).cellAt 1).toI=Zag l 0 1:=rfl
  have e2:((l.getD 0 .top).cellAt 2).toI=Zag l 0 2:=rfl
  have he:ZpP rs b xs (Zag l 0 1) (Zag l 0 2)=true:=hX.ear hl0
  have ha:(0≤Zag l 0 0∧Zag l 0 0<ks.length)∧(0≤Zag l 0 1∧Zag l 0 1≤1000000000000)∧Zag l 0 2≤1000000000000:=hX.act 0 hl0
  have hl:=hX.len
  have hx:ZaO ks rs l l.length 0 a b xs=if ZnT rs a b xs (Zag l 0 0) (Zag l 0 1) (Zag l 0 2)=true then(ZaO ks rs l n 1 (exM ks a (Zag l 0 0)) (Zjq rs a b xs (Zag l 0 0) (Zag l 0 1)) (xs.set (Zag l 0 0).toNat (Zjq rs a b xs (Zag l 0 0) (Zag l 0 1)))).map (Zjq rs a b xs (Zag l 0 0) (Zag l 0 1):: ·)else none:=by
   rw[hn,ZaO];rfl
  rw[hx]
  by_cases hF:ZnT rs a b xs (Zag l 0 0) (Zag l 0 1) (Zag l 0 2)=true
  ·have hb:=Zih hF
   have hv:Zjt rs a b xs (Zag l 0 0) (Zag l 0 1) (Zag l 0 2)=Zjq rs a b xs (Zag l 0 0) (Zag l 0 1):=by unfold Zjt;rw[if_pos hF]
   rw[if_pos hF,Zjy]
   have ih:=Zj1 hC ms ks rs l n 1 [Zjq rs a b xs (Zag l 0 0) (Zag l 0 1)] (xs.set (Zag l 0 0).toNat (Zjq rs a b xs (Zag l 0 0) (Zag l 0 1))) (exM ks a (Zag l 0 0)) (Zjq rs a b xs (Zag l 0 0) (Zag l 0 1)) (by omega) (by simp) (hX.next hb.1 (by omega) _)
   simp[-List.getD_eq_getElem?_getD,ZdT,hl0,e0,e1,e2,he,hF,hv,AV.bx,Zai]
   exact⟨by omega,by simpa using ih⟩
  ·rw[if_neg hF]
   simp[-List.getD_eq_getElem?_getD,ZdT,hl0,e0,e1,e2,he,hF]
   exact Zpf false [] rfl
def k79:Ctr:=⟨79,0,fun _ a=>match a with |[.agg (.gen [.list (.big .str _), .list (.big (.agg [.str, .int .i64]) ks), .list (.big (.agg [.str, .int .i64, .int .i64, .int .i64, .int .i64]) rs)]), .agg (.gen [.int .i64 a, .int .i64 b, .list (.ints .i64 xs)]), .list (.big (.agg [.int .i64, .int .i64, .int .i64]) l)]=>some (decide (tfG ks rs l b xs=true), .tup [.list (.ints .i64 ((ZaO ks rs l l.length 0 a b xs).getD [])), .bool (ZaO ks rs l l.length 0 a b xs).isSome],Zl2) |_=>none⟩
theorem ZAs:k79.OK Tryz.prog:=fun pa args r fr h=>by
 simp only[k79]at h
 split at h
 ·simp only[Option.some.injEq,Prod.mk.injEq,decide_eq_true_eq]at h
  obtain⟨h0,rfl,rfl⟩:=h
  exact ZoT _ _ _ _ _ _ _ h0
 ·cases h
def Bh:List Ctr:=[k79]++Bg
theorem Zw3:ZaK Tryz.prog Bh:=⟨ZAs,ZnX⟩
end Go.Proofs.YtkeoeooghhjibaaGreatDoor
/- Paths of functions, printed by the explorer (Gx). No condition. -/
namespace Go.Proofs.YtkeoeooghhjibaaGreatDoor
set_option maxRecDepth 100000
set_option linter.unusedVariables false
def Zza(ms ks rs l:List AV):AFrame:={ fn:=31,N:=13,env:=[(0,AV.agg (Row.gen [.list (Row.big .str ms), .list (Row.big (.agg [.str, .int .i64]) ks), .list (Row.big (.agg [.str, .int .i64, .int .i64, .int .i64, .int .i64]) rs)])),(1,AV.list (Row.big (.agg [.int .i64, .int .i64, .int .i64]) l))],todo:=[.code a31.code],defs:=[],rnd:=none,ret:=false,res:=[ARes.tmp 4,ARes.tmp 5] }
def ZFa(ms ks rs l:List AV):List AFrame:=[(Zza ms ks rs l)]
theorem Zv5(ms ks rs l:List AV):Zat tab 31 [AV.agg (Row.gen [.list (Row.big .str ms), .list (Row.big (.agg [.str, .int .i64]) ks), .list (Row.big (.agg [.str, .int .i64, .int .i64, .int .i64, .int .i64]) rs)]),AV.list (Row.big (.agg [.int .i64, .int .i64, .int .i64]) l)]=some (Zza ms ks rs l):=rfl
def Zwx(A:Ar)(K:KT)(F:FT)(ms ks rs l:List AV):Prop:=rB [decide (tfG ks rs l 0 (List.replicate (List.length ks) (-1))=true),decide (List.length ks≤1000000)] (F (AV.tup [AV.list (.ints .i64 (Option.getD (ZaO ks rs l (List.length l) 0 0 0 (List.replicate (List.length ks) (-1))) [])),AV.bool (Option.isSome (ZaO ks rs l (List.length l) 0 0 0 (List.replicate (List.length ks) (-1))))]) (none))
theorem ZCU{A:Ar}{K:KT}{F:FT}{M:MT}{ms ks rs l:List AV} :ZaI A tab Bh 31 K F M (.run 10 (.fn)) (ZFa ms ks rs l) []=Zwx A K F ms ks rs l:=by kernel_rfl
end Go.Proofs.YtkeoeooghhjibaaGreatDoor
/- Contracts as a list. No condition. -/
namespace Go.Proofs.YtkeoeooghhjibaaGreatDoor
theorem Zte{s:List UInt8}(h:ZaM s=true):s≠[]:=fun e=>by subst e;revert h;decide
theorem OkF.tf{ms ks rs l:List AV}(hf:OkF ms ks rs l):tfG ks rs l 0 (List.replicate ks.length (-1))=true:=by
 have hT:=ZC6 hf
 refine tfG_iff.2 ⟨hT.forb (ms:=ms) (l:=l) hf (Int.le_refl _) (by omega),fun i hi=>?_,fun i hi=>?_,?_⟩
 ·have:=(hf.rule i hi).2.2
  exact⟨this.1,this.2,Zte (hf.name i hi)⟩
 ·have:=hf.act i hi;omega
 ·have:=hf.ks1;have:=hf.l1;simp;omega
theorem Znt(ms ks rs:List AV)(l:List AV)(h:Zew ms ks rs l=0):Zan Tryz.prog 31 [.agg (.gen [.list (.big .str ms), .list (.big (.agg [.str, .int .i64]) ks), .list (.big (.agg [.str, .int .i64, .int .i64, .int .i64, .int .i64]) rs)]), .list (.big (.agg [.int .i64, .int .i64, .int .i64]) l)] (.tup [.list (.ints .i64 ((ZnS ks rs l).getD [])), .bool (ZnS ks rs l).isSome]) none:=
 start (Zv5 ms ks rs l) fun C hC=>tgo hC Zw3 ZCU (by
  have hf:=okF h
  have hk:=hf.ks1
  simp[Zwx,hf.tf]
  exact⟨by omega,rfl,rfl⟩)
def k31:Ctr:=⟨31,0,fun _ a=>match a with |[.agg (.gen [.list (.big .str ms), .list (.big (.agg [.str, .int .i64]) ks), .list (.big (.agg [.str, .int .i64, .int .i64, .int .i64, .int .i64]) rs)]), .list (.big (.agg [.int .i64, .int .i64, .int .i64]) l)]=>some (decide (Zew ms ks rs l=0), .tup [.list (.ints .i64 ((ZnS ks rs l).getD [])), .bool (ZnS ks rs l).isSome],none) |_=>none⟩
theorem ZwK:k31.OK Tryz.prog:=fun pa args r fr h=>by
 simp only[k31]at h
 split at h
 ·simp only[Option.some.injEq,Prod.mk.injEq,decide_eq_true_eq]at h
  obtain⟨h0,rfl,rfl⟩:=h
  exact Znt _ _ _ _ h0
 ·cases h
def Bi:List Ctr:=[k31]++Bh
theorem ZBL:ZaK Tryz.prog Bi:=⟨ZwK,Zw3⟩
end Go.Proofs.YtkeoeooghhjibaaGreatDoor
/- Paths of functions, printed by the explorer (Gx). No condition. -/
namespace Go.Proofs.YtkeoeooghhjibaaGreatDoor
set_option maxRecDepth 100000
set_option linter.unusedVariables false
def ZDI(ms ks rs l:List AV):AFrame:={ fn:=4,N:=100,env:=[(0,AV.agg (Row.gen [.list (Row.big .str ms), .list (Row.big (.agg [.str, .int .i64]) ks), .list (Row.big (.agg [.str, .int .i64, .int .i64, .int .i64, .int .i64]) rs)])),(1,AV.list (Row.big (.agg [.int .i64, .int .i64, .int .i64]) l))],todo:=[.code a4.code],defs:=[],rnd:=none,ret:=false,res:=[ARes.tmp 4] }
def f4e(ms ks rs l:List AV):List AFrame:=[(ZDI ms ks rs l)]
theorem ZyD(ms ks rs l:List AV):Zat tab 4 [AV.agg (Row.gen [.list (Row.big .str ms), .list (Row.big (.agg [.str, .int .i64]) ks), .list (Row.big (.agg [.str, .int .i64, .int .i64, .int .i64, .int .i64]) rs)]),AV.list (Row.big (.agg [.int .i64, .int .i64, .int .i64]) l)]=some (ZDI ms ks rs l):=rfl
def ZDc(A:Ar)(K:KT)(F:FT)(ms ks rs l:List AV):Prop:=rB [!A.not true] (bB (A.not (ZpO ms ks rs)) (F (AV.bool true) (none)) (bB (A.lt 14 (A.int (A.lenA l))) (F (AV.bool true) (none)) (rB [decide (ZaB ms ks rs=true∧List.length l≤1000000),decide (ZaB ms ks rs=true∧List.length l≤1000000),decide (List.length l≤1000000),decide (List.length ms≤1000000∧List.length ks≤1000000∧List.length rs≤1000000),decide (ZaB ms ks rs=true∧List.length l≤1000000),decide (List.length l≤1000000),decide (List.length ms≤1000000∧List.length ks≤1000000∧List.length rs≤1000000)] (bB (A.not (A.eq (Zew ms ks rs l) 0)) (bB (A.eq (Zls ms ks rs l) (Zew ms ks rs l)) (bB (A.eq (Zew ms ks rs l) (Zew ms ks rs l)) (bB (A.eq (A.int (A.len (Zk3 ms ks rs l))) 0) (F (AV.bool (A.eq (A.int (A.len (Zkl ms ks rs l))) 0)) (none)) (F (AV.bool false) (none))) (F (AV.bool false) (none))) (F (AV.bool false) (none))) (rB [!A.not (A.eq (Zew ms ks rs l) 0)] (rB [decide (Zew ms ks rs l=0)] (rB [decide (List.length (Zkl ms ks rs l)≤1000000)] (bB (A.not (decide (Zkl ms ks rs l=Zkl ms ks rs l))) (F (AV.bool false) (none)) (rB [decide (Zew ms ks rs l=0)] (bB (Option.isSome (ZaO ks rs l (List.length l) 0 0 0 (List.replicate (List.length ks) (-1)))) (bB (A.eq (Zls ms ks rs l) 0) (rB [decide (List.length (Zk3 ms ks rs l)≤1000000)] (bB (decide (Zk3 ms ks rs l=Option.getD (ZaO ks rs l (List.length l) 0 0 0 (List.replicate (List.length ks) (-1))) [])) (F (AV.bool true) (none)) (rB [!A.not (Option.isSome (ZaO ks rs l (List.length l) 0 0 0 (List.replicate (List.length ks) (-1))))] (F (AV.bool false) (none))))) (rB [!A.not (Option.isSome (ZaO ks rs l (List.length l) 0 0 0 (List.replicate (List.length ks) (-1))))] (F (AV.bool false) (none)))) (rB [A.not (Option.isSome (ZaO ks rs l (List.length l) 0 0 0 (List.replicate (List.length ks) (-1))))] (bB (A.eq (Zls ms ks rs l) 12) (F (AV.bool (A.eq (A.int (A.len (Zk3 ms ks rs l))) 0)) (none)) (F (AV.bool false) (none))))))))))))))
theorem ZE4{A:Ar}{K:KT}{F:FT}{M:MT}{ms ks rs l:List AV} :ZaI A tab Bi 4 K F M (.run 11 (.fy (.run 8 (.tf (.ty (.ty (.ty (.run 2 (.ty (.run 5 (.fn))))))) (.fy (.fy (.fy (.run 2 (.tf (.run 5 (.fn)) (.run 42 (.tf (.run 6 (.tf (.ty (.ty (.ty (.run 1 (.tf (.ty (.ty (.ty (.run 1 (.tf (.ty (.ty (.ty (.run 4 (.fn))))) (.fy (.fy (.fy (.run 4 (.fn)))))))))) (.fy (.fy (.fy (.run 1 (.fy (.fy (.fy (.fy (.run 4 (.fn))))))))))))))) (.fy (.fy (.fy (.run 1 (.fy (.fy (.fy (.fy (.run 1 (.fy (.fy (.fy (.fy (.run 4 (.fn))))))))))))))))) (.run 7 (.fy (.fy (.fy (.fy (.fy (.fy (.fy (.run 2 (.tf (.run 5 (.fn)) (.run 17 (.tf (.ty (.ty (.run 1 (.tf (.ty (.ty (.ty (.run 1 (.tf (.ty (.ty (.run 2 (.ty (.ty (.run 3 (.ty (.ty (.run 4 (.fn)))))))))) (.fy (.fy (.fy (.fy (.alt [false,false] (.fy (.fy (.fy (.fy (.alt [false,false] (.fy (.run 4 (.fn))) (.no)))))) (.no))))))))))) (.fy (.fy (.fy (.run 1 (.fy (.fy (.fy (.fy (.fy (.alt [false,false] (.fy (.fy (.fy (.fy (.alt [false,false] (.fy (.run 4 (.fn))) (.no)))))) (.no))))))))))))))) (.fy (.fy (.run 1 (.fy (.fy (.fy (.fy (.run 1 (.fy (.fy (.fy (.ty (.ty (.alt [false,true] (.fy (.tf (.ty (.ty (.alt [false,true] (.fy (.run 4 (.fn))) (.no)))) (.fy (.fy (.alt [false,false] (.fy (.run 4 (.fn))) (.no)))))) (.no)))))))))))))))))))))))))))))))))))))) (f4e ms ks rs l) []=ZDc A K F ms ks rs l:=by kernel_rfl
end Go.Proofs.YtkeoeooghhjibaaGreatDoor
/- The law on times, walked. No condition. -/
namespace Go.Proofs.YtkeoeooghhjibaaGreatDoor
theorem Zit(ks l:List AV):∀(m i:Nat) (a:Int),(Zb6 ks l m i a).length=m
 |0,_,_=>rfl
 |m+1,i,a=>by rw[Zb6,List.length_cons,Zit ks l m]
theorem ZiD(ks rs l:List AV):∀(m i:Nat) (a t:Int) (xs ts:List Int),ZaO ks rs l m i a t xs=some ts→ts.length=m
 |0,_,_,_,_,ts,h=>by simp only[ZaO,Option.some.injEq]at h;subst h;rfl
 |m+1,i,a,t,xs,ts,h=>by
  rw[ZaO]at h
  split at h
  ·rw[Option.map_eq_some_iff]at h
   obtain⟨q,h1,rfl⟩:=h
   rw[List.length_cons,ZiD ks rs l m _ _ _ _ q h1]
  ·cases h
theorem Zpk(ms ks rs l:List AV):Zan Tryz.prog 4 [.agg (.gen [.list (.big .str ms), .list (.big (.agg [.str, .int .i64]) ks), .list (.big (.agg [.str, .int .i64, .int .i64, .int .i64, .int .i64]) rs)]), .list (.big (.agg [.int .i64, .int .i64, .int .i64]) l)] (.bool true) none:=
 start (ZyD ms ks rs l) fun C hC=>tgo hC ZBL ZE4 (by
  unfold ZDc
  by_cases hf:ZpO ms ks rs=true
  ·obtain⟨h1,h2,h3,h4⟩:=Zo6 hf
   by_cases hl:14<l.length
   ·simp[hf,show(14:Int)<l.length by omega]
   ·have g1:ms.length≤1000000:=by omega
    have g2:ks.length≤1000000:=by omega
    have g3:rs.length≤1000000:=by omega
    have g4:l.length≤1000000:=by omega
    have gl:¬(14:Int)<l.length:=by omega
    by_cases h0:Zew ms ks rs l=0
    ·have hm:(Zkl ms ks rs l).length≤1000000:=by
      unfold Zkl
      rw[if_pos h0,Zit];exact g4
     have eo:ZaO ks rs l l.length 0 0 0 (List.replicate ks.length (-1))=ZnS ks rs l:=rfl
     rw[eo]
     cases ho:ZnS ks rs l with
     |none=>
      have e1:Zls ms ks rs l=12:=by simp[Zls,h0,ho]
      have e2:Zk3 ms ks rs l=[]:=by simp[Zk3,h0,ho]
      simp[hf,gl,h1,g1,g2,g3,g4,h0,hm,e1,e2]
     |some ts=>
      have e1:Zls ms ks rs l=0:=by simp[Zls,h0,ho]
      have e2:Zk3 ms ks rs l=ts:=by simp[Zk3,h0,ho]
      have e3:ts.length≤1000000:=by rw[ZiD ks rs l _ _ _ _ _ ts ho];exact g4
      simp[hf,gl,h1,g1,g2,g3,g4,h0,hm,e1,e2,e3]
    ·have e1:Zls ms ks rs l=Zew ms ks rs l:=by simp[Zls,h0]
     have e2:Zk3 ms ks rs l=[]:=by simp[Zk3,h0]
     have e3:Zkl ms ks rs l=[]:=by simp[Zkl,h0]
     simp[hf,gl,h1,g1,g2,g3,g4,h0,e1,e2,e3]
  ·simp[hf])
end Go.Proofs.YtkeoeooghhjibaaGreatDoor
