/- Contracts as a list. No condition. -/
import Derived.Test.YtkeoeooghhjibaaGreatDoorPv
import Derived.KernelRfl
namespace Go.Proofs.YtkeoeooghhjibaaGreatDoor
def ZhC(rs:List AV)(a b:Int)(xs:List Int)(k:Int):Nat→Nat→Nat
 |0,i=>i
 |m+1,i=>if Zj7 rs a b xs k i=true then i else ZhC rs a b xs k m (i+1)
def Zdg(rs:List AV)(a b:Int)(xs:List Int)(k:Int):Bool:=decide (ZhC rs a b xs k rs.length 0=rs.length)
def ZrZ(rs:List AV)(i:Nat):AV:=.eptr (.agg (.gen [.str (Zay rs i), .int .i64 (Zaj rs i 1), .int .i64 (Zaj rs i 2), .int .i64 (Zaj rs i 3), .int .i64 (Zaj rs i 4)])) 0
def ZhE(rs:List AV)(a b:Int)(xs:List Int)(k:Int)(m i:Nat):AV:=if ZhC rs a b xs k m i=i+m then .val (.pointer none)else ZrZ rs (ZhC rs a b xs k m i)
theorem ZmZ(rs:List AV)(a b:Int)(xs:List Int)(k:Int)(m i:Nat):ZhE rs a b xs k (m+1) i=if Zj7 rs a b xs k i=true then ZrZ rs i else ZhE rs a b xs k m (i+1):=by
 unfold ZhE
 simp only[ZhC]
 split
 ·rw[if_neg (by omega)]
 ·rw[show i+(m+1)=i+1+m by omega]
theorem ZgO{C:Ctx}(hC:C.P=Tryz.prog)(ms ks rs:List AV)(a b:Int)(xs:List Int)(q:Int)(hg:ZbX rs b xs=true):∀m k:Nat,k+m=rs.length→Ev C (ZeY ms ks rs a b xs q rs.length k) (ZdW ms ks rs a b xs q rs.length k) (ZcD 91 (ZhE rs a b xs q m k) none)
 |0,k,hk=>tgo hC ZqF Ziw (by simp[ZfA,show ¬(k:Int)<rs.length by omega,ZhE,ZhC])
 |m+1,k,hk=>by
  have hlt:(k:Int)<rs.length:=by omega
  have hlt2:k<rs.length:=by omega
  have e0:((rs.getD k .top).cellAt 0).toS=Zay rs k:=rfl
  have e1:((rs.getD k .top).cellAt 1).toI=Zaj rs k 1:=rfl
  have e2:((rs.getD k .top).cellAt 2).toI=Zaj rs k 2:=rfl
  have e3:((rs.getD k .top).cellAt 3).toI=Zaj rs k 3:=rfl
  have e4:((rs.getD k .top).cellAt 4).toI=Zaj rs k 4:=rfl
  have ih:=ZgO hC ms ks rs a b xs q hg m (k+1) (by omega)
  refine tgo hC ZqF Ziw ?_
  simp[-List.getD_eq_getElem?_getD,ZfA,e0,e1,e2,e3,e4,hlt,hlt2]
  obtain⟨V,hV⟩:∃V,V=ZhE rs a b xs q (m+1) k:=⟨_,rfl⟩
  rw[←hV]
  rw[ZmZ]at hV
  simp only[Zj7,ZrZ,decide_eq_true_eq]at hV
  have g:=ZmK hg hlt2
  clear e0 e1 e2 e3 e4 hg
  generalize Zay rs k=nm at*
  generalize Zaj rs k 1=f1 at*
  generalize Zaj rs k 2=f2 at*
  generalize Zaj rs k 3=f3 at*
  generalize Zaj rs k 4=f4 at*
  generalize xs.getD f3.toNat 0=t at*
  have r3: -9223372036854775808≤(k:Int)+1∧(k:Int)+1≤9223372036854775807:=by omega
  have r1:f3≠ -1→(0≤f3∧f3.toNat<xs.length)∧(-9223372036854775808≤b-t∧b-t≤9223372036854775807):=by omega
  have ih':Ev C (ZeY ms ks rs a b xs q rs.length (k+1)) (ZdW ms ks rs a b xs q rs.length (k+1)) (ZcD 91 (ZhE rs a b xs q m (k+1)) none):=ih
  clear hk hlt hlt2 g ih
  by_cases h1:f1=q<;>by_cases h2:f2= -1<;>by_cases h3:f2=a<;>by_cases h4:f3= -1<;>by_cases h5:t= -1<;>by_cases h6:b-t<f4<;>simp_all<;>(intro h7;omega)
theorem Zox(ms ks rs:List AV)(a b:Int)(xs:List Int)(q:Int)(hg:ZbX rs b xs=true):Zao Tryz.prog 91 [.eptr (.agg (.gen [.list (.big .str ms), .list (.big (.agg [.str, .int .i64]) ks), .list (.big (.agg [.str, .int .i64, .int .i64, .int .i64, .int .i64]) rs), .int .i64 a, .int .i64 b, .list (.ints .i64 xs)])) 0, .int .i64 q] (ZhE rs a b xs q rs.length 0) none:=
 start (Zvg ms ks rs a b xs q) fun C hC=>tgo hC ZqF ZDz (by
  have:=ZgO hC ms ks rs a b xs q hg rs.length 0 (by omega)
  simpa[ZyR]using this)
def ZDp(c:Bool)(rs:List AV)(a b:Int)(xs:List Int)(q:Int):AV:=match c with |true=>.val (.pointer none) |false=>ZrZ rs (ZhC rs a b xs q rs.length 0)
theorem Zxc{c:Bool}{rs:List AV}{a b:Int}{xs:List Int}{q:Int}(h:Zdg rs a b xs q=c):ZDp c rs a b xs q=ZhE rs a b xs q rs.length 0:=by
 subst h
 unfold ZDp ZhE Zdg
 by_cases h:ZhC rs a b xs q rs.length 0=rs.length
 ·rw[decide_eq_true h,if_pos (by omega)]
 ·rw[decide_eq_false h,if_neg (by omega)]
def k91b:Ctr:=⟨91,1,fun pa a=>match pa with
 |[]=>none
 |c::_=>(match a with
  |[.eptr (.agg (.gen [.list (.big .str _), .list (.big (.agg [.str, .int .i64]) _), .list (.big (.agg [.str, .int .i64, .int .i64, .int .i64, .int .i64]) rs), .int .i64 a, .int .i64 b, .list (.ints .i64 xs)])) 0, .int .i64 q]=>some (decide (ZbX rs b xs=true∧Zdg rs a b xs q=c),ZDp c rs a b xs q,none)
  |_=>none)⟩
theorem Zu3:k91b.OK Tryz.prog:=fun pa args r fr h=>by
 simp only[k91b]at h
 split at h
 ·cases h
 ·split at h
  ·simp only[Option.some.injEq,Prod.mk.injEq,decide_eq_true_eq]at h
   obtain⟨⟨h0,h1⟩,rfl,rfl⟩:=h
   rw[Zxc h1]
   exact Zox _ _ _ _ _ _ _ h0
  ·cases h
def Bc0:List Ctr:=[k91b]++Bb
theorem ZzA:ZaD Tryz.prog Bc0:=⟨Zu3,ZqF⟩
def Bc:List Ctr:=[]++Bc0
theorem ZAM:ZaD Tryz.prog Bc:=ZzA
end Go.Proofs.YtkeoeooghhjibaaGreatDoor
/- Paths of functions, printed by the explorer (Gx). No condition. -/
namespace Go.Proofs.YtkeoeooghhjibaaGreatDoor
set_option maxRecDepth 100000
set_option linter.unusedVariables false
def ZsL(ms ks rs:List AV)(a t:Int)(xs:List Int)(c d e:Int):AFrame:={ fn:=123,N:=24,env:=[(0,AV.eptr (AV.agg (Row.gen [.list (Row.big .str ms), .list (Row.big (.agg [.str, .int .i64]) ks), .list (Row.big (.agg [.str, .int .i64, .int .i64, .int .i64, .int .i64]) rs), .int .i64 a, .int .i64 t, .list (.ints .i64 xs)])) 0),(1,AV.agg (Row.gen [.int .i64 c, .int .i64 d, .int .i64 e]))],todo:=[.code a123.code],defs:=[],rnd:=none,ret:=false,res:=[ARes.tmp 4] }
def ZFN(ms ks rs:List AV)(a t:Int)(xs:List Int)(c d e:Int):List AFrame:=[(ZsL ms ks rs a t xs c d e)]
theorem Zsk(ms ks rs:List AV)(a t:Int)(xs:List Int)(c d e:Int):Zar tab 123 [AV.eptr (AV.agg (Row.gen [.list (Row.big .str ms), .list (Row.big (.agg [.str, .int .i64]) ks), .list (Row.big (.agg [.str, .int .i64, .int .i64, .int .i64, .int .i64]) rs), .int .i64 a, .int .i64 t, .list (.ints .i64 xs)])) 0,AV.agg (Row.gen [.int .i64 c, .int .i64 d, .int .i64 e])]=some (ZsL ms ks rs a t xs c d e):=rfl
def ZoE(A:Ar)(K:KT)(F:FT)(ms ks rs:List AV)(a t:Int)(xs:List Int)(c d e:Int):Prop:=qB [decide (ZbX rs t xs=true∧Zdg rs a t xs c=true),Zab t d e] (F (AV.bool true) (none)) (qB [decide (ZbX rs t xs=true∧Zdg rs a t xs c=false),Zab t d e] (F (AV.bool false) (none)) (rB [!Zab t d e] (F (AV.bool false) (none))))
theorem Zyz{A:Ar}{K:KT}{F:FT}{M:MT}{ms ks rs:List AV}{a t:Int}{xs:List Int}{c d e:Int} :ZaH A tab Bc 123 K F M (.run 6 (.alt [true,true] (.run 2 (.fn)) (.alt [true,false] (.run 2 (.fn)) (.fy (.run 2 (.fn)))))) (ZFN ms ks rs a t xs c d e) []=ZoE A K F ms ks rs a t xs c d e:=by kernel_rfl
end Go.Proofs.YtkeoeooghhjibaaGreatDoor
/- Contracts as a list. No condition. -/
namespace Go.Proofs.YtkeoeooghhjibaaGreatDoor
def Zog(rs:List AV)(a t:Int)(xs:List Int)(c d e:Int):Bool:=Zab t d e&&Zdg rs a t xs c
theorem ZoY(ms ks rs:List AV)(a t:Int)(xs:List Int)(c d e:Int)(h:Zab t d e=false∨ZbX rs t xs=true):Zao Tryz.prog 123 [.eptr (.agg (.gen [.list (.big .str ms), .list (.big (.agg [.str, .int .i64]) ks), .list (.big (.agg [.str, .int .i64, .int .i64, .int .i64, .int .i64]) rs), .int .i64 a, .int .i64 t, .list (.ints .i64 xs)])) 0, .agg (.gen [.int .i64 c, .int .i64 d, .int .i64 e])] (.bool (Zog rs a t xs c d e)) none:=
 start (Zsk ms ks rs a t xs c d e) fun C hC=>tgo hC ZAM Zyz (by
  unfold Zog
  cases h1:Zab t d e
  ·simp[ZoE,h1]
  ·have hg:ZbX rs t xs=true:=by simpa[h1]using h
   cases h2:Zdg rs a t xs c<;>simp[ZoE,h1,h2,hg])
def k123:Ctr:=⟨123,0,fun _ a=>match a with |[.eptr (.agg (.gen [.list (.big .str _), .list (.big (.agg [.str, .int .i64]) _), .list (.big (.agg [.str, .int .i64, .int .i64, .int .i64, .int .i64]) rs), .int .i64 a, .int .i64 t, .list (.ints .i64 xs)])) 0, .agg (.gen [.int .i64 c, .int .i64 d, .int .i64 e])]=>some (decide (Zab t d e=false∨ZbX rs t xs=true), .bool (Zog rs a t xs c d e),none) |_=>none⟩
theorem Zuq:k123.OK Tryz.prog:=fun pa args r fr h=>by
 simp only[k123]at h
 split at h
 ·simp only[Option.some.injEq,Prod.mk.injEq,decide_eq_true_eq]at h
  obtain⟨h0,rfl,rfl⟩:=h
  exact ZoY _ _ _ _ _ _ _ _ _ h0
 ·cases h
def Bd:List Ctr:=[k123]++Bc
theorem ZE0:ZaD Tryz.prog Bd:=⟨Zuq,ZAM⟩
end Go.Proofs.YtkeoeooghhjibaaGreatDoor
/- Contracts as a list. No condition. -/
namespace Go.Proofs.YtkeoeooghhjibaaGreatDoor
theorem Zo1{e n:Int}{l:List AV}(h:ZcY e n l=0):e=0∧0<l.length∧l.length≤12∧∀i<l.length,ZhB n l i=0:=by
 unfold ZcY ZeI at h
 split at h
 ·rename_i hh
  have h0:=firstE_zero.1 hh
  simp only[List.mem_cons,List.not_mem_nil,or_false,forall_eq_or_imp,forall_eq]at h0
  obtain⟨h1,h2,h3⟩:=h0
  have h2:=ZaN h2 (by decide)
  have h3:=ZaN h3 (by decide)
  simp only[decide_eq_true_eq]at h2 h3
  refine⟨h1,by omega,by omega,fun i hi=>?_⟩
  have key:∀(m k:Nat),k+m=l.length→pE (Zfd (ZhB n l) m k)=0→∀i,k≤i→i<l.length→ZhB n l i=0:=by
   intro m
   induction m with
   |zero=>intro k hk _ i hi1 hi2;omega
   |succ m ih=>
    intro k hk hs i hi1 hi2
    rw[Zfd]at hs
    split at hs
    ·rename_i hz
     by_cases hik:i=k
     ·rw[hik];exact hz
     ·exact ih (k+1) (by omega) hs i (by omega) hi2
    ·rename_i hz;exact absurd hs hz
  exact key l.length 0 (by omega) h i (by omega) hi
 ·rename_i hh;exact absurd h hh
theorem ZrS{n:Int}{l:List AV}{i:Nat}(h:ZhB n l i=0):(0≤Zaj l i 0∧Zaj l i 0<n)∧(0≤Zaj l i 1∧Zaj l i 1≤1000000000000)∧(0≤Zaj l i 2∧Zaj l i 2≤1000000000000)∧Zaj l i 1≤Zaj l i 2:=by
 unfold ZhB ZmL at h
 have h0:=firstE_zero.1 h
 simp only[List.mem_cons,List.not_mem_nil,or_false,forall_eq_or_imp,forall_eq]at h0
 obtain⟨h1,h2,h3⟩:=h0
 have h1:=within_iff.1 (ZaN h1 (by decide))
 have h2:=ZaN h2 (by decide)
 have h3:=ZaN h3 (by decide)
 simp only[Bool.and_eq_true,within_iff,decide_eq_true_eq]at h2 h3
 omega
structure OkF (ms ks rs l:List AV):Prop where
 model:ZaL ms ks rs=0
 ks1:1≤ks.length∧ks.length≤8
 rs1:rs.length≤10
 l1:0<l.length∧l.length≤12
 act:∀i<l.length,(0≤Zaj l i 0∧Zaj l i 0<ks.length)∧(0≤Zaj l i 1∧Zaj l i 1≤1000000000000)∧(0≤Zaj l i 2∧Zaj l i 2≤1000000000000)∧Zaj l i 1≤Zaj l i 2
 rule:∀i<rs.length,(0≤Zaj rs i 1∧Zaj rs i 1<ks.length)∧(-1≤Zaj rs i 3∧Zaj rs i 3<ks.length)∧(1≤Zaj rs i 4∧Zaj rs i 4≤1000000)
 name:∀i<rs.length,ZaU (Zay rs i)=true
theorem okF{ms ks rs l:List AV}(h:Zpg ms ks rs l=0):OkF ms ks rs l:=by
 obtain⟨h1,h2,h3,h4⟩:=Zo1 h
 obtain⟨g1,g2,g3,_,_,g6⟩:=Zn0 h1
 exact⟨h1,g2,g3,⟨h2,h3⟩,fun i hi=>ZrS (h4 i hi),fun i hi=>⟨(ZgT (g6 i hi).2).1,(ZgT (g6 i hi).2).2.2.1,(ZgT (g6 i hi).2).2.2.2.1⟩,fun i hi=>(g6 i hi).1⟩
def Be:List Ctr:=Bd
theorem ZFi:ZaD Tryz.prog Be:=ZE0
end Go.Proofs.YtkeoeooghhjibaaGreatDoor
/- Contracts as a list. No condition. -/
namespace Go.Proofs.YtkeoeooghhjibaaGreatDoor
structure OkT (ks:List AV) (t:Int) (xs:List Int):Prop where
 len:xs.length=ks.length
 all:∀x∈xs, -1≤x∧x≤t
 lo:0≤t
 hi:t≤1000000000000
theorem OkT.at{ks:List AV}{t:Int}{xs:List Int}(h:OkT ks t xs){k:Nat}(hk:k<xs.length): -1≤xs.getD k 0∧xs.getD k 0≤t:=by
 refine h.all _ ?_
 rw[List.getD_eq_getElem?_getD,List.getElem?_eq_getElem hk];exact List.getElem_mem hk
theorem OkT.set{ks:List AV}{t t':Int}{xs:List Int}(h:OkT ks t xs)(h1:t≤t')(h2:t'≤1000000000000)(k:Nat):OkT ks t' (xs.set k t'):=by
 refine⟨by simpa using h.len,fun x hx=>?_,by have:=h.lo;omega,h2⟩
 rcases List.mem_or_eq_of_mem_set hx with hx |rfl
 ·have:=h.all x hx;omega
 ·have:=h.lo;omega
theorem OkT.forb{ms ks rs l:List AV}(hf:OkF ms ks rs l){t t':Int}{xs:List Int}(h:OkT ks t xs)(h1:t≤t')(h2:t'≤1000000000000):ZbX rs t' xs=true:=by
 simp only[ZbX,Bool.and_eq_true,List.all_eq_true,decide_eq_true_eq,List.mem_range]
 refine⟨⟨fun i hi=>?_,fun x hx=>?_⟩,by have:=h.lo;omega,h2,by have:=hf.rs1;omega⟩
 ·have:=(hf.rule i hi).2.1;have:=h.len;omega
 ·have:=h.all x hx;omega
section
variable {C:Ctx}(hC:C.P=Tryz.prog)(ms ks rs l:List AV)(hf:OkF ms ks rs l)
include hC hf
end
theorem ZHC{ms ks rs l:List AV}(_:OkF ms ks rs l):OkT ks 0 (List.replicate ks.length (-1)):=⟨by simp,fun x hx=>by rw[List.eq_of_mem_replicate hx];omega,by omega,by omega⟩
def Bf:List Ctr:=Be
theorem ZFG:ZaD Tryz.prog Bf:=ZFi
end Go.Proofs.YtkeoeooghhjibaaGreatDoor
/- The earliest time: the least feasible candidate. No condition. -/
namespace Go.Proofs.YtkeoeooghhjibaaGreatDoor
theorem Zkz{rs:List AV}{a t:Int}{xs:List Int}{c:Int} :∀(m i:Nat),ZhC rs a t xs c m i=i+m↔∀j,i≤j→j<i+m→Zj7 rs a t xs c j=false
 |0,i=>⟨fun _ j h1 h2=>by omega,fun _=>rfl⟩
 |m+1,i=>by
  unfold ZhC
  have ih:=Zkz (rs:=rs) (a:=a) (t:=t) (xs:=xs) (c:=c) m (i+1)
  constructor
  ·intro h j h1 h2
   split at h
   ·omega
   ·rename_i hb
    by_cases hj:j=i
    ·subst hj;simpa using hb
    ·exact ih.1 (by omega) j (by omega) (by omega)
  ·intro h
   rw[if_neg (by rw[h i (by omega) (by omega)];simp)]
   have:=ih.2 fun j h1 h2=>h j (by omega) (by omega)
   omega
theorem ZnX{rs:List AV}{a t:Int}{xs:List Int}{c:Int} :Zdg rs a t xs c=true↔∀i<rs.length,Zj7 rs a t xs c i=false:=by
 unfold Zdg
 rw[decide_eq_true_eq]
 have:=Zkz (rs:=rs) (a:=a) (t:=t) (xs:=xs) (c:=c) rs.length 0
 rw[Nat.zero_add]at this
 rw[this]
 exact⟨fun h i hi=>h i (Nat.zero_le _) hi,fun h j _ hj=>h j hj⟩
theorem Zkv{rs:List AV}{a t:Int}{xs:List Int}{c:Int}(hn:∀i<rs.length,Zay rs i≠[]):∀(m i:Nat),i+m=rs.length→(Zgl rs a t xs c m i=[]↔∀j,i≤j→j<rs.length→Zj7 rs a t xs c j=false)
 |0,i,h=>⟨fun _ j h1 h2=>by omega,fun _=>rfl⟩
 |m+1,i,h=>by
  unfold Zgl
  have ih:=Zkv (a:=a) (t:=t) (xs:=xs) (c:=c) hn m (i+1) (by omega)
  constructor
  ·intro hh j h1 h2
   split at hh
   ·exact absurd hh (hn i (by omega))
   ·rename_i hb
    by_cases hj:j=i
    ·subst hj;simpa using hb
    ·exact ih.1 hh j (by omega) h2
  ·intro hh
   rw[if_neg (by rw[hh i (by omega) (by omega)];simp)]
   exact ih.2 fun j h1 h2=>hh j (by omega) h2
theorem Zn2{rs:List AV}{a t:Int}{xs:List Int}{c:Int}(hn:∀i<rs.length,Zay rs i≠[]):Zgl rs a t xs c rs.length 0=[]↔Zdg rs a t xs c=true:=by
 rw[Zkv hn rs.length 0 (by omega),ZnX]
 exact⟨fun h i hi=>h i (Nat.zero_le _) hi,fun h j _ hj=>h j hj⟩
end Go.Proofs.YtkeoeooghhjibaaGreatDoor
/- Contracts as a list. No condition. -/
namespace Go.Proofs.YtkeoeooghhjibaaGreatDoor
def ZHE(rs:List AV)(b:Int)(xs:List Int)(d e:Int):Bool:=ZbX rs b xs&&((List.range rs.length).all fun i=>decide (1≤Zaj rs i 4∧Zaj rs i 4≤1000000∧Zay rs i≠[]))&&decide (0≤d∧d≤1000000000000∧e≤1000000000000)
section
variable {C:Ctx}(hC:C.P=Tryz.prog)(ms ks rs:List AV)(a b:Int)(xs:List Int)(c d e:Int)(hg:ZHE rs b xs d e=true)
include hC hg
end
def Bg:List Ctr:=Bf
theorem ZDK:ZaD Tryz.prog Bg:=ZFG
end Go.Proofs.YtkeoeooghhjibaaGreatDoor
/- Contracts as a list. No condition. -/
namespace Go.Proofs.YtkeoeooghhjibaaGreatDoor
def tfG(ks rs l:List AV)(b:Int)(xs:List Int):Bool:=ZbX rs b xs&&((List.range rs.length).all fun i=>decide (1≤Zaj rs i 4∧Zaj rs i 4≤1000000∧Zay rs i≠[]))&&((List.range l.length).all fun i=>decide ((0≤Zaj l i 0∧Zaj l i 0<ks.length)∧(0≤Zaj l i 1∧Zaj l i 1≤1000000000000)∧Zaj l i 2≤1000000000000))&&decide (xs.length=ks.length∧xs.length≤1000000∧l.length≤1000000)
structure OkX (ks rs l:List AV) (b:Int) (xs:List Int):Prop where
 forb:ZbX rs b xs=true
 rule:∀i<rs.length,1≤Zaj rs i 4∧Zaj rs i 4≤1000000∧Zay rs i≠[]
 act:∀i<l.length,(0≤Zaj l i 0∧Zaj l i 0<ks.length)∧(0≤Zaj l i 1∧Zaj l i 1≤1000000000000)∧Zaj l i 2≤1000000000000
 len:xs.length=ks.length∧xs.length≤1000000∧l.length≤1000000
theorem tfG_iff{ks rs l:List AV}{b:Int}{xs:List Int} :tfG ks rs l b xs=true↔OkX ks rs l b xs:=by
 simp only[tfG,Bool.and_eq_true,List.all_eq_true,decide_eq_true_eq,List.mem_range]
 exact⟨fun h=>⟨h.1.1.1,h.1.1.2,h.1.2,h.2⟩,fun h=>⟨⟨⟨h.forb,h.rule⟩,h.act⟩,h.len⟩⟩
theorem OkX.next{ks rs l:List AV}{b t:Int}{xs:List Int}(h:OkX ks rs l b xs)(h1:b≤t)(h2:t≤1000000000000)(k:Nat):OkX ks rs l t (xs.set k t):=by
 refine⟨?_,h.rule,h.act,by simpa using h.len⟩
 have hf:=h.forb
 simp only[ZbX,Bool.and_eq_true,List.all_eq_true,decide_eq_true_eq,List.mem_range]at hf⊢
 refine⟨⟨fun i hi=>by simpa using hf.1.1 i hi,fun x hx=>?_⟩,by omega,h2,hf.2.2.2⟩
 rcases List.mem_or_eq_of_mem_set hx with hx |rfl
 ·have:=hf.1.2 x hx;omega
 ·omega
section
variable {C:Ctx}(hC:C.P=Tryz.prog)(ms ks rs l:List AV)
include hC
end
def Bh:List Ctr:=Bg
theorem ZFA:ZaD Tryz.prog Bh:=ZDK
end Go.Proofs.YtkeoeooghhjibaaGreatDoor
/- Contracts as a list. No condition. -/
namespace Go.Proofs.YtkeoeooghhjibaaGreatDoor
theorem ZoV{s:List UInt8}(h:ZaU s=true):s≠[]:=fun e=>by subst e;revert h;decide
theorem OkF.tf{ms ks rs l:List AV}(hf:OkF ms ks rs l):tfG ks rs l 0 (List.replicate ks.length (-1))=true:=by
 have hT:=ZHC hf
 refine tfG_iff.2 ⟨hT.forb (ms:=ms) (l:=l) hf (Int.le_refl _) (by omega),fun i hi=>?_,fun i hi=>?_,?_⟩
 ·have:=(hf.rule i hi).2.2
  exact⟨this.1,this.2,ZoV (hf.name i hi)⟩
 ·have:=hf.act i hi;omega
 ·have:=hf.ks1;have:=hf.l1;simp;omega
def Bi:List Ctr:=Bh
theorem ZDE:ZaD Tryz.prog Bi:=ZFA
end Go.Proofs.YtkeoeooghhjibaaGreatDoor
/- Contracts as a list. No condition. -/
namespace Go.Proofs.YtkeoeooghhjibaaGreatDoor
def Bj:List Ctr:=Bi
theorem Zq2:ZaD Tryz.prog Bj:=ZDE
end Go.Proofs.YtkeoeooghhjibaaGreatDoor
/- Paths of functions, printed by the explorer (Gx). No condition. -/
namespace Go.Proofs.YtkeoeooghhjibaaGreatDoor
set_option maxRecDepth 100000
set_option linter.unusedVariables false
def ZBG(ms ks rs l:List AV)(wn fl:Int)(dn:List AV):AFrame:={ fn:=85,N:=32,env:=[(0,AV.agg (Row.gen [.list (Row.big .str ms), .list (Row.big (.agg [.str, .int .i64]) ks), .list (Row.big (.agg [.str, .int .i64, .int .i64, .int .i64, .int .i64]) rs), .list (Row.big (.agg [.int .i64, .int .i64, .int .i64]) l), .int .i64 wn, .int .i64 fl])),(1,AV.list (Row.big (.agg [.int .i64, .int .i64]) dn))],todo:=[.code a85.code],defs:=[],rnd:=none,ret:=false,res:=[ARes.cell 4 true 3] }
def ZJd(ms ks rs l:List AV)(wn fl:Int)(dn:List AV):List AFrame:=[(ZBG ms ks rs l wn fl dn)]
theorem ZwY(ms ks rs l:List AV)(wn fl:Int)(dn:List AV):Zar tab 85 [AV.agg (Row.gen [.list (Row.big .str ms), .list (Row.big (.agg [.str, .int .i64]) ks), .list (Row.big (.agg [.str, .int .i64, .int .i64, .int .i64, .int .i64]) rs), .list (Row.big (.agg [.int .i64, .int .i64, .int .i64]) l), .int .i64 wn, .int .i64 fl]),AV.list (Row.big (.agg [.int .i64, .int .i64]) dn)]=some (ZBG ms ks rs l wn fl dn):=rfl
def Zhe(ms ks rs l:List AV)(wn fl:Int)(dn:List AV)(l0:List Int)(n1 n2 n3:Int):List AFrame:=[{ fn:=85,N:=32,env:=[(1,AV.list (Row.big (.agg [.int .i64, .int .i64]) dn)),(2,AV.ptr 85003 0 0 0),(4,AV.ptr 85005 0 0 0),(5,AV.ptr 85006 0 0 0),(6,AV.int .i64 n1)],todo:=.code (ACode.gh [] Zq5)::Zwt,defs:=[],rnd:=none,ret:=false,res:=[ARes.cell 4 true 3] }]
def Zfy(ms ks rs l:List AV)(wn fl:Int)(dn:List AV)(l0:List Int)(n1 n2 n3:Int):Zac:=[(85003,{ base:=0,blks:=[Blk.row 29 6 (Row.gen [AV.agg (Row.gen [AV.list (Row.big .str ms),AV.list (Row.big (.agg [.str, .int .i64]) ks),AV.list (Row.big (.agg [.str, .int .i64, .int .i64, .int .i64, .int .i64]) rs),AV.list (Row.big (.agg [.int .i64, .int .i64, .int .i64]) l),AV.int .i64 wn,AV.int .i64 fl])])] }),(85005,{ base:=0,blks:=[Blk.row 76 3 (Row.gen [AV.agg (Row.gen [AV.int .i64 0,AV.int .i64 0,AV.nils])])] }),(85006,{ base:=0,blks:=[Blk.row 76 3 (Row.gen [AV.agg (Row.gen [AV.int .i64 n2,AV.int .i64 n3,AV.list (.ints .i64 l0)])])] })]
abbrev ZiI(ms ks rs l:List AV)(wn fl:Int)(dn:List AV)(l0:List Int)(n1 n2 n3:Int):List AFrame×Zac:=(Zhe ms ks rs l wn fl dn l0 n1 n2 n3,Zfy ms ks rs l wn fl dn l0 n1 n2 n3)
def ZBI(A:Ar)(K:KT)(F:FT)(ms ks rs l:List AV)(wn fl:Int)(dn:List AV):Prop:=rB [decide (List.length ks≤1000000)] (K (ZiI (ms) (ks) (rs) (l) (wn) (fl) (dn) (List.replicate (List.length ks) (-1)) (0) (0) (0)))
theorem ZDZ{A:Ar}{K:KT}{F:FT}{M:MT}{ms ks rs l:List AV}{wn fl:Int}{dn:List AV} :ZaH A tab Bj 85 K F M (.run 21 (.hd)) (ZJd ms ks rs l wn fl dn) []=ZBI A K F ms ks rs l wn fl dn:=by kernel_rfl
def Zfh(A:Ar)(K:KT)(F:FT)(ms ks rs l:List AV)(wn fl:Int)(dn:List AV)(l0:List Int)(n1 n2 n3:Int):Prop:=bB (A.lt n1 (A.int (A.lenA dn))) (rB [A.inR .i64 (A.add n1 1),decide (List.length l0≤1000000∧0≤AV.toI (AV.cellAt (A.nthA l (A.nat n1)) 0)∧AV.toI (AV.cellAt (A.nthA l (A.nat n1)) 0)< ↑(List.length ks)∧AV.toI (AV.cellAt (A.nthA l (A.nat n1)) 0)< ↑(List.length l0)),Zag (Zag (A.le 0 n1) (Nat.blt (A.nat n1) (A.lenA dn))) true,Zag (Zag (A.le 0 n1) (Nat.blt (A.nat n1) (A.lenA l))) true] (K (ZiI (ms) (ks) (rs) (l) (wn) (fl) (dn) (List.set l0 (Int.toNat ((A.nthA l (A.nat n1)).cellAt 0).toI) ((A.nthA dn (A.nat n1)).cellAt 1).toI) (A.add n1 1) (exM ks n2 ((A.nthA l (A.nat n1)).cellAt 0).toI) ((A.nthA dn (A.nat n1)).cellAt 1).toI))) (F (AV.agg (Row.gen [.int .i64 n2, .int .i64 n3, .list (.ints .i64 l0)])) (none))
theorem Zia{A:Ar}{K:KT}{F:FT}{M:MT}{ms ks rs l:List AV}{wn fl:Int}{dn:List AV}{l0:List Int}{n1 n2 n3:Int} :ZaH A tab Bj 85 K F M (.run 9 (.tf (.run 12 (.hd)) (.run 7 (.fn)))) (Zhe ms ks rs l wn fl dn l0 n1 n2 n3) (Zfy ms ks rs l wn fl dn l0 n1 n2 n3)=Zfh A K F ms ks rs l wn fl dn l0 n1 n2 n3:=by kernel_rfl
end Go.Proofs.YtkeoeooghhjibaaGreatDoor
/- Contracts as a list. No condition. -/
namespace Go.Proofs.YtkeoeooghhjibaaGreatDoor
def Zoe(ks l:List AV):Nat→Nat→Int→Int
 |0,_,a=>a
 |m+1,i,a=>Zoe ks l m (i+1) (exM ks a (Zaj l i 0))
def ZxB(dn:List AV):Nat→Nat→Int→Int
 |0,_,t=>t
 |m+1,i,_=>ZxB dn m (i+1) (Zaj dn i 1)
def Zjg(l dn:List AV):Nat→Nat→List Int→List Int
 |0,_,xs=>xs
 |m+1,i,xs=>Zjg l dn m (i+1) (xs.set (Zaj l i 0).toNat (Zaj dn i 1))
def ZB8(ks l:List AV):Bool:=((List.range l.length).all fun i=>decide (0≤Zaj l i 0∧Zaj l i 0<ks.length))&&decide (l.length≤1000000∧ks.length≤1000000)
theorem actG_iff{ks l:List AV} :ZB8 ks l=true↔(∀i<l.length,0≤Zaj l i 0∧Zaj l i 0<ks.length)∧l.length≤1000000∧ks.length≤1000000:=by
 simp only[ZB8,Bool.and_eq_true,List.all_eq_true,decide_eq_true_eq,List.mem_range]
theorem Zmw{C:Ctx}(hC:C.P=Tryz.prog)(ms ks rs l:List AV)(wn fl:Int)(dn:List AV)(hd:dn.length≤l.length)(hg:ZB8 ks l=true):∀(m i:Nat) (xs:List Int) (a t:Int),i+m=dn.length→xs.length=ks.length→Ev C (Zhe ms ks rs l wn fl dn xs i a t) (Zfy ms ks rs l wn fl dn xs i a t) (ZcD 85 (.agg (.gen [.int .i64 (Zoe ks l m i a), .int .i64 (ZxB dn m i t), .list (.ints .i64 (Zjg l dn m i xs))])) none)
 |0,i,xs,a,t,hk,hx=>tgo hC Zq2 Zia (by simp[Zfh,show ¬(i:Int)<dn.length by omega,Zoe,ZxB,Zjg])
 |m+1,i,xs,a,t,hk,hx=>by
  obtain⟨g1,g2,g3⟩:=actG_iff.1 hg
  have ih:=Zmw hC ms ks rs l wn fl dn hd hg m (i+1) (xs.set (Zaj l i 0).toNat (Zaj dn i 1)) (exM ks a (Zaj l i 0)) (Zaj dn i 1) (by omega) (by simpa using hx)
  have h1:=g1 i (by omega)
  have e0:((l.getD i .top).cellAt 0).toI=Zaj l i 0:=rfl
  have e1:((dn.getD i .top).cellAt 1).toI=Zaj dn i 1:=rfl
  refine tgo hC Zq2 Zia ?_
  simp[-List.getD_eq_getElem?_getD,Zfh,show(i:Int)<dn.length by omega,show i<dn.length by omega,show i<l.length by omega,e0,e1,h1,hx,Zoe,ZxB,Zjg]
  exact⟨by omega,by simpa using ih⟩
theorem ZrT(ms ks rs l:List AV)(wn fl:Int)(dn:List AV)(h:dn.length≤l.length∧ZB8 ks l=true):Zao Tryz.prog 85 [.agg (.gen [.list (.big .str ms), .list (.big (.agg [.str, .int .i64]) ks), .list (.big (.agg [.str, .int .i64, .int .i64, .int .i64, .int .i64]) rs), .list (.big (.agg [.int .i64, .int .i64, .int .i64]) l), .int .i64 wn, .int .i64 fl]), .list (.big (.agg [.int .i64, .int .i64]) dn)] (.agg (.gen [.int .i64 (Zoe ks l dn.length 0 0), .int .i64 (ZxB dn dn.length 0 0), .list (.ints .i64 (Zjg l dn dn.length 0 (List.replicate ks.length (-1))))])) none:=
 start (ZwY ms ks rs l wn fl dn) fun C hC=>tgo hC Zq2 ZDZ (by
  have:=Zmw hC ms ks rs l wn fl dn h.1 h.2 dn.length 0 (List.replicate ks.length (-1)) 0 0 (by omega) (by simp)
  have h3:=(actG_iff.1 h.2).2.2
  simp[ZBI,h3]
  exact this)
def k85:Ctr:=⟨85,0,fun _ a=>match a with |[.agg (.gen [.list (.big .str _), .list (.big (.agg [.str, .int .i64]) ks), .list (.big (.agg [.str, .int .i64, .int .i64, .int .i64, .int .i64]) _), .list (.big (.agg [.int .i64, .int .i64, .int .i64]) l), .int .i64 _, .int .i64 _]), .list (.big (.agg [.int .i64, .int .i64]) dn)]=>some (decide (dn.length≤l.length∧ZB8 ks l=true), .agg (.gen [.int .i64 (Zoe ks l dn.length 0 0), .int .i64 (ZxB dn dn.length 0 0), .list (.ints .i64 (Zjg l dn dn.length 0 (List.replicate ks.length (-1))))]),none) |_=>none⟩
theorem ZzO:k85.OK Tryz.prog:=fun pa args r fr h=>by
 simp only[k85]at h
 split at h
 ·simp only[Option.some.injEq,Prod.mk.injEq,decide_eq_true_eq]at h
  obtain⟨h0,rfl,rfl⟩:=h
  exact ZrT _ _ _ _ _ _ _ h0
 ·cases h
def Bk:List Ctr:=[k85]++Bj
theorem ZEq:ZaD Tryz.prog Bk:=⟨ZzO,Zq2⟩
end Go.Proofs.YtkeoeooghhjibaaGreatDoor
/- Contracts as a list. No condition. -/
namespace Go.Proofs.YtkeoeooghhjibaaGreatDoor
def m0L(ks l dn:List AV)(i:Nat):List Int:=Zjg l dn i 0 (List.replicate ks.length (-1))
def m0A(ks l:List AV)(i:Nat):Int:=Zoe ks l i 0 0
def Zn4(rs ks l dn:List AV)(at0:Int):Nat→Nat→Int
 |0,_=>0
 |m+1,i=>if Zaj dn i 0=i∧Zaj dn i 1≤at0∧(0<i→Zaj dn (i-1:Nat) 1≤Zaj dn i 1)then
   (if Zog rs (m0A ks l i) (Zaj dn i 1) (m0L ks l dn i) (Zaj l i 0) (Zaj l i 1) (Zaj l i 2)=true then Zn4 rs ks l dn at0 m (i+1)else 26)
  else 9
def Zlk(n:Int):List Int→Int
 |[]=>0
 |x::xs=>if Zab x 0 (n-1)=true then Zlk n xs else 6
def upR(n:Int)(ha:Bool):List AV→Int
 |[]=>0
 |x::xs=>if Zab (x.cellAt 0).toI 0 n=true then(if (x.cellAt 1).toB=true∧¬(ha=true∧(x.cellAt 0).toI=n)then 3 else upR n ha xs)else 2
def Zts(ks l:List AV)(mo:Int)(dn:List AV)(ha:Bool)(ba:Int)(to:Bool)(dw:List Int)(up:List AV):Int:=
 if mo=m0A ks l dn.length then
  (if ha=true∧dn.length=l.length then 21 else
    (if Zab ba 0 dn.length=true then
      (if to=true∧¬(ha=true∧ba=dn.length)then 3 else
        (if Zlk l.length dw=0 then upR dn.length ha up else Zlk l.length dw))
    else 2))
 else 3
def stE(ks rs l:List AV)(fl at0 mo:Int)(dn:List AV)(ha:Bool)(ba:Int)(to:Bool)(dw:List Int)(up:List AV):Int:=
 if Zab at0 0 1000000000000=true then
  (if dn.length≤l.length∧(dw.length:Int)≤fl∧(up.length:Int)≤fl then
    (if Zn4 rs ks l dn at0 dn.length 0=0 then Zts ks l mo dn ha ba to dw up else Zn4 rs ks l dn at0 dn.length 0)
  else 8)
 else 2
theorem Zkm(ks l:List AV):∀(m i:Nat) (a:Int),Zoe ks l (m+1) i a=exM ks (Zoe ks l m i a) (Zaj l (i+m:Nat) 0)
 |0,i,a=>rfl
 |m+1,i,a=>by
  rw[Zoe,Zkm ks l m (i+1),Zoe,show i+1+m=i+(m+1) by omega]
theorem ZjV(l dn:List AV):∀(m i:Nat) (xs:List Int),Zjg l dn (m+1) i xs=(Zjg l dn m i xs).set (Zaj l (i+m:Nat) 0).toNat (Zaj dn (i+m:Nat) 1)
 |0,i,xs=>rfl
 |m+1,i,xs=>by
  rw[Zjg,ZjV l dn m (i+1),Zjg,show i+1+m=i+(m+1) by omega]
theorem ZjH(l dn:List AV)(n:Nat):∀(m i:Nat) (xs:List Int),i+m≤n→Zjg l (dn.take n) m i xs=Zjg l dn m i xs
 |0,i,xs,_=>rfl
 |m+1,i,xs,h=>by
  rw[Zjg,Zjg,ZjH l dn n m (i+1) _ (by omega)]
  have:Zaj (dn.take n) i 1=Zaj dn i 1:=by
   unfold Zaj
   rw[List.getD_eq_getElem?_getD,List.getD_eq_getElem?_getD,Int.toNat_natCast,List.getElem?_take,if_pos (by omega)]
  rw[this]
theorem Zjc(ks l:List AV)(i:Nat):m0A ks l (i+1)=exM ks (m0A ks l i) (Zaj l i 0):=by
 unfold m0A;rw[Zkm,Nat.zero_add]
theorem Zgp(ks l dn:List AV)(i:Nat):m0L ks l dn (i+1)=(m0L ks l dn i).set (Zaj l i 0).toNat (Zaj dn i 1):=by
 unfold m0L;rw[ZjV,Nat.zero_add]
def m0T(dn:List AV):Nat→Int
 |0=>0
 |i+1=>Zaj dn i 1
theorem okD{ms ks rs l:List AV}(hf:OkF ms ks rs l)(dn:List AV){i:Nat}(h:OkT ks (m0T dn i) (m0L ks l dn i)){at0:Int}(hat:at0≤1000000000000)(h1:Zaj dn i 1≤at0)(h2:0<i→Zaj dn (i-1:Nat) 1≤Zaj dn i 1)(hw:Zab (Zaj dn i 1) (Zaj l i 1) (Zaj l i 2)=true)(hl:i<l.length):
 ZbX rs (Zaj dn i 1) (m0L ks l dn i)=true∧OkT ks (m0T dn (i+1)) (m0L ks l dn (i+1)):=by
 have hw:=within_iff.1 hw
 obtain⟨_,hb,_⟩:=hf.act i hl
 have hge:m0T dn i≤Zaj dn i 1:=by
  cases i with
  |zero=>simp only[m0T];omega
  |succ i=>have:=h2 (by omega);simpa[m0T]using this
 refine⟨h.forb (ms:=ms) (l:=l) hf hge (by omega),?_⟩
 rw[Zgp]
 exact h.set hge (by omega) _
theorem ZJu(ks l dn:List AV):OkT ks (m0T dn 0) (m0L ks l dn 0):=⟨by simp[m0L,Zjg],fun x hx=>by simp[m0L,Zjg]at hx;rw[hx.2];simp[m0T],by simp[m0T],by simp[m0T]⟩
theorem ZdP{ms ks rs l:List AV}{wn fl:Int}(h:upE ms ks rs l wn fl=0):OkF ms ks rs l∧(1≤wn∧wn≤6)∧1≤fl∧fl≤6:=by
 unfold upE at h
 split at h
 ·rename_i hf
  split at h
  ·rename_i hw
   have h1:=within_iff.1 hw.1
   have h2:=within_iff.1 hw.2
   exact⟨okF hf,h1,h2⟩
  ·cases h
 ·rename_i hf;exact absurd h hf
section
variable {C:Ctx}(hC:C.P=Tryz.prog)(ms ks rs l:List AV)(wn fl:Int)(at0 mo:Int)(dn:List AV)(ha:Bool)(ba:Int)(to:Bool)(dw:List Int)(up:List AV)
include hC
end
def Bl:List Ctr:=Bk
theorem ZDm:ZaD Tryz.prog Bl:=ZEq
end Go.Proofs.YtkeoeooghhjibaaGreatDoor
/- Contracts as a list. No condition. -/
namespace Go.Proofs.YtkeoeooghhjibaaGreatDoor
theorem Zgy{P:Program}{f:FuncId}{args args':List AV}{r:AV}{fr:Option Fresh}(h:Zao P f args r fr)(hw:WkA args' args):Zao P f args' r fr:=fun w okA L vs hargs hok=>
 h w okA L vs ⟨by rw[←hw.spec.1];exact hargs.1,fun j y v hy hv=>by
  have hj:j<args'.length:=by rw[hw.spec.1];exact(List.getElem?_eq_some_iff.1 hy).1
  exact(hw.spec.2 j _ y (List.getElem?_eq_getElem hj) hy).rel (hargs.2 j _ v (List.getElem?_eq_getElem hj) hv)⟩ hok
theorem Zv7(at0 mo:Int)(dn:List AV)(ha:Bool)(ba:Int)(to:Bool)(dw:List Int)(up:List AV)(at1 mo1:Int)(ha1:Bool)(ba1:Int)(to1:Bool)(hl:dn.length≤1000000∧dw.length≤1000000∧up.length≤1000000):Zao Tryz.prog 21 [.agg (.gen [.int .i64 at0, .int .i64 mo, .list (.big (.agg [.int .i64, .int .i64]) dn), .bool ha, .int .i64 ba, .bool to, .list (.ints .i64 dw), .list (.big (.agg [.int .i64, .bool]) up)]), .agg (.gen [.int .i64 at1, .int .i64 mo1, .nils, .bool ha1, .int .i64 ba1, .bool to1, .nils, .nils])] (.bool (Zg4 at0 mo dn ha ba to dw up at1 mo1 [] ha1 ba1 to1 [] [])) none:=
 Zgy (Zkg at0 mo dn ha ba to dw up at1 mo1 [] ha1 ba1 to1 [] [] hl) ⟨.same _,Wk.agg' ⟨.same _, .same _, .nil _ rfl, .same _, .same _, .same _, .nil _ rfl, .nil _ rfl,trivial⟩,trivial⟩
section
variable {C:Ctx}(hC:C.P=Tryz.prog)(ms ks rs l:List AV)(wn fl:Int)(at0 mo:Int)(dn:List AV)(ha:Bool)(ba:Int)(to:Bool)(dw:List Int)(up:List AV)
include hC
end
section
variable {C:Ctx}(hC:C.P=Tryz.prog)(ms ks rs l:List AV)(wn fl:Int)(at0 mo:Int)(dn:List AV)(ha:Bool)(ba:Int)(to:Bool)(dw:List Int)(up:List AV)
include hC
end
section
variable {C:Ctx}(hC:C.P=Tryz.prog)(ms ks rs l:List AV)(wn fl:Int)(at0 mo:Int)(dn:List AV)(ha:Bool)(ba:Int)(to:Bool)(dw:List Int)(up:List AV)
include hC
end
def k21z:Ctr:=⟨21,0,fun _ a=>match a with |[.agg (.gen [.int .i64 at0, .int .i64 mo, .list (.big (.agg [.int .i64, .int .i64]) dn), .bool ha, .int .i64 ba, .bool to, .list (.ints .i64 dw), .list (.big (.agg [.int .i64, .bool]) up)]), .agg (.gen [.int .i64 at1, .int .i64 mo1, .nils, .bool ha1, .int .i64 ba1, .bool to1, .nils, .nils])]=>some (decide (dn.length≤1000000∧dw.length≤1000000∧up.length≤1000000), .bool (Zg4 at0 mo dn ha ba to dw up at1 mo1 [] ha1 ba1 to1 [] []),none) |_=>none⟩
theorem ZwC:k21z.OK Tryz.prog:=fun pa args r fr h=>by
 simp only[k21z]at h
 split at h
 ·simp only[Option.some.injEq,Prod.mk.injEq,decide_eq_true_eq]at h
  obtain⟨h0,rfl,rfl⟩:=h
  exact Zv7 _ _ _ _ _ _ _ _ _ _ _ _ _ h0
 ·cases h
def Bm:List Ctr:=[k21z]++Bl
theorem ZEL:ZaD Tryz.prog Bm:=⟨ZwC,ZDm⟩
end Go.Proofs.YtkeoeooghhjibaaGreatDoor
/- Contracts as a list. No condition. -/
namespace Go.Proofs.YtkeoeooghhjibaaGreatDoor
def k81o:Ctr:=⟨81,0,fun _ a=>match a with |[.list (.ints .i64 xs)]=>some (decide (xs.length≤1000000), .row 0 0,some ⟨3,1, .ints .i64 xs⟩) |_=>none⟩
theorem Zug:k81o.OK Tryz.prog:=fun pa args r fr h=>by
 simp only[k81o]at h
 split at h
 ·simp only[Option.some.injEq,Prod.mk.injEq,decide_eq_true_eq]at h
  obtain⟨h0,rfl,rfl⟩:=h
  exact ZgR _ h0
 ·cases h
def k83:Ctr:=⟨83,0,fun _ a=>match a with |[]=>some (true,(.agg (.gen [(.str [112,97,115,115]),(.int .i64 1),(.int .i64 1000000000000),(.fn 127 []),(.str [115,101,110,100]),(.int .i64 0),(.int .i64 11),(.fn 128 []),(.str [97,114,114,105,118,101]),(.int .i64 0),(.int .i64 5),(.fn 129 []),(.str [104,101,97,114]),(.int .i64 0),(.int .i64 5),(.fn 130 []),(.str [108,111,115,101]),(.int .i64 0),(.int .i64 5),(.fn 131 []),(.str [100,114,111,112]),(.int .i64 0),(.int .i64 5),(.fn 132 []),(.str [114,101,112,101,97,116]),(.int .i64 0),(.int .i64 5),(.fn 133 []),(.str [114,101,115,116,97,114,116]),(.int .i64 0),(.int .i64 0),(.fn 134 []),(.str [114,101,98,111,111,116]),(.int .i64 0),(.int .i64 0),(.fn 135 [])])),none) |_=>none⟩
theorem ZCS:k83.OK Tryz.prog:=fun pa args r fr h=>by
 simp only[k83]at h
 split at h
 ·cases h
  exact Zco
 ·cases h
def Bn:List Ctr:=[k81o,k83]++Bm
theorem ZbQ:ZaD Tryz.prog Bn:=⟨Zug,⟨ZCS,ZEL⟩⟩
end Go.Proofs.YtkeoeooghhjibaaGreatDoor
/- What an event does to a state, and that it leaves it valid: plain. No condition. -/
namespace Go.Proofs.YtkeoeooghhjibaaGreatDoor
structure ST where
 t:Int
 mo:Int
 dn:List AV
 ha:Bool
 ba:Int
 to:Bool
 dw:List Int
 up:List AV
def dnV(a t:Int):AV:=.agg (.gen [.int .i64 a, .int .i64 t])
def upV(n:Int)(h:Bool):AV:=.agg (.gen [.int .i64 n, .bool h])
def Zbm{α:Type}(l:List α)(n:Int):List α:=l.take n.toNat++l.drop (n.toNat+1)
def ZBe(fl:Int)(n:Nat)(h:Bool)(up:List AV):List AV:=if(up.length:Int)<fl then up++[upV n h]else up
def ZiQ(ks rs l:List AV)(s:ST):Bool:=Zog rs (m0A ks l s.dn.length) s.t (m0L ks l s.dn s.dn.length) (Zaj l s.dn.length 0) (Zaj l s.dn.length 1) (Zaj l s.dn.length 2)
def Ze0(ks rs l:List AV)(s:ST)(a:Int):ST:=if s.ha=false∧a=s.dn.length then(if ZiQ ks rs l s=true then { s with dn:=s.dn++[dnV a s.t],mo:=m0A ks l (s.dn.length+1) }else { s with ha:=true })else s
def ZcL(fl:Int)(s:ST):ST:={ s with up:=ZBe fl s.dn.length s.ha s.up }
def ZaR(l:List AV)(wn fl:Int)(s:ST)(k n:Int):Int:=
 if k=0 then(if n>1000000000000-s.t then 2 else 0)else
 if k=1 then(if n<l.length then(if s.to=true then 21 else if Zab n s.ba (s.ba+wn-1)=true then(if (s.dw.length:Int)<fl then 0 else 16)else 26)else 6)else
 if k=2∨k=4 then(if n<s.dw.length then 0 else 6)else
 if k=3∨k=5 then(if n<s.up.length then 0 else 6)else
 if k=6 then(if n<s.dw.length then(if (s.dw.length:Int)<fl then 0 else 16)else 6)else 0
def appS(ks rs l:List AV)(fl:Int)(s:ST)(k n:Int):ST:=
 if k=0 then { s with t:=s.t+n }else
 if k=1 then { s with dw:=s.dw++[n] }else
 if k=2 then ZcL fl (Ze0 ks rs l { s with dw:=Zbm s.dw n } (s.dw.getD n.toNat 0))else
 if k=3 then { s with up:=Zbm s.up n,ba:=max s.ba (Zaj s.up n 0),to:=s.to||((s.up.getD n.toNat .top).cellAt 1).toB }else
 if k=4 then { s with dw:=Zbm s.dw n }else
 if k=5 then { s with up:=Zbm s.up n }else
 if k=6 then { s with dw:=s.dw++[s.dw.getD n.toNat 0] }else
 if k=7 then { s with ba:=0,to:=false }else ZcL fl s
def ZC9(ks rs l dn:List AV)(t:Int)(i:Nat):Prop:=Zaj dn i 0=i∧Zaj dn i 1≤t∧(0<i→Zaj dn (i-1:Nat) 1≤Zaj dn i 1)∧Zog rs (m0A ks l i) (Zaj dn i 1) (m0L ks l dn i) (Zaj l i 0) (Zaj l i 1) (Zaj l i 2)=true
structure VS (ks rs l:List AV) (fl:Int) (s:ST):Prop where
 t:0≤s.t∧s.t≤1000000000000
 len:s.dn.length≤l.length∧(s.dw.length:Int)≤fl∧(s.up.length:Int)≤fl
 done:∀i,i<s.dn.length→ZC9 ks rs l s.dn s.t i
 mode:s.mo=m0A ks l s.dn.length
 halt:s.ha=true→s.dn.length≠l.length
 base:0≤s.ba∧s.ba≤s.dn.length
 told:s.to=true→s.ha=true∧s.ba=s.dn.length
 down:∀x∈s.dw,0≤x∧x≤(l.length:Int)-1
 up:∀x∈s.up,(0≤(x.cellAt 0).toI∧(x.cellAt 0).toI≤s.dn.length)∧((x.cellAt 1).toB=true→s.ha=true∧(x.cellAt 0).toI=s.dn.length)
theorem ZfF{rs ks l dn:List AV}{t:Int} :∀(m i:Nat),Zn4 rs ks l dn t m i=0↔∀j,i≤j→j<i+m→ZC9 ks rs l dn t j
 |0,i=>⟨fun _ j h1 h2=>by omega,fun _=>rfl⟩
 |m+1,i=>by
  have ih:=ZfF (rs:=rs) (ks:=ks) (l:=l) (dn:=dn) (t:=t) m (i+1)
  rw[Zn4]
  constructor
  ·intro h j h1 h2
   split at h
   ·rename_i hc
    split at h
    ·rename_i ha
     by_cases hj:j=i
     ·subst hj;exact⟨hc.1,hc.2.1,hc.2.2,ha⟩
     ·exact ih.1 h j (by omega) (by omega)
    ·cases h
   ·cases h
  ·intro h
   obtain⟨a,b,c,d⟩:=h i (by omega) (by omega)
   rw[if_pos ⟨a,b,c⟩,if_pos d]
   exact ih.2 fun j h1 h2=>h j (by omega) (by omega)
theorem downR_zero{n:Int} :∀ {xs:List Int},Zlk n xs=0↔∀x∈xs,0≤x∧x≤n-1
 |[]=>⟨fun _ x h=>(by cases h),fun _=>rfl⟩
 |x::xs=>by
  have ih:=downR_zero (n:=n) (xs:=xs)
  rw[Zlk]
  constructor
  ·intro h
   split at h
   ·rename_i hw
    have hw:=within_iff.1 hw
    intro y hy
    rcases List.mem_cons.1 hy with rfl |hy
    ·exact hw
    ·exact ih.1 h y hy
   ·cases h
  ·intro h
   rw[if_pos (within_iff.2 (h x List.mem_cons_self))]
   exact ih.2 fun y hy=>h y (List.mem_cons_of_mem _ hy)
theorem upR_zero{n:Int}{ha:Bool} :∀ {xs:List AV},upR n ha xs=0↔∀x∈xs,(0≤(x.cellAt 0).toI∧(x.cellAt 0).toI≤n)∧((x.cellAt 1).toB=true→ha=true∧(x.cellAt 0).toI=n)
 |[]=>⟨fun _ x h=>(by cases h),fun _=>rfl⟩
 |x::xs=>by
  have ih:=upR_zero (n:=n) (ha:=ha) (xs:=xs)
  rw[upR]
  constructor
  ·intro h
   split at h
   ·rename_i hw
    have hw:=within_iff.1 hw
    split at h
    ·cases h
    ·rename_i hc
     intro y hy
     rcases List.mem_cons.1 hy with rfl |hy
     ·exact⟨hw,fun hb=>Classical.byContradiction fun hn=>hc ⟨hb,hn⟩⟩
     ·exact ih.1 h y hy
   ·cases h
  ·intro h
   obtain⟨h1,h2⟩:=h x List.mem_cons_self
   rw[if_pos (within_iff.2 h1),if_neg (fun hc=>hc.2 (h2 hc.1))]
   exact ih.2 fun y hy=>h y (List.mem_cons_of_mem _ hy)
theorem ZnH{ks l:List AV}{mo:Int}{dn:List AV}{ha:Bool}{ba:Int}{to:Bool}{dw:List Int}{up:List AV} :Zts ks l mo dn ha ba to dw up=0↔mo=m0A ks l dn.length∧(ha=true→dn.length≠l.length)∧(0≤ba∧ba≤dn.length)∧(to=true→ha=true∧ba=dn.length)∧Zlk l.length dw=0∧upR dn.length ha up=0:=by
 unfold Zts
 by_cases h1:mo=m0A ks l dn.length
 ·rw[if_pos h1]
  by_cases h2:ha=true∧dn.length=l.length
  ·rw[if_pos h2]
   exact⟨fun h=>(by cases h),fun h=>absurd h2.2 (h.2.1 h2.1)⟩
  ·rw[if_neg h2]
   by_cases h3:Zab ba 0 dn.length=true
   ·rw[if_pos h3]
    have h3:=within_iff.1 h3
    by_cases h4:to=true∧¬(ha=true∧ba=dn.length)
    ·rw[if_pos h4]
     exact⟨fun h=>(by cases h),fun h=>absurd (h.2.2.2.1 h4.1) h4.2⟩
    ·rw[if_neg h4]
     have h2':ha=true→dn.length≠l.length:=fun a b=>h2 ⟨a,b⟩
     have h4':to=true→ha=true∧ba=dn.length:=fun a=>Classical.byContradiction fun b=>h4 ⟨a,b⟩
     by_cases h5:Zlk l.length dw=0
     ·rw[if_pos h5]
      exact⟨fun h=>⟨h1,h2',h3,h4',h5,h⟩,fun h=>h.2.2.2.2.2⟩
     ·rw[if_neg h5]
      exact⟨fun h=>absurd h h5,fun h=>absurd h.2.2.2.2.1 h5⟩
   ·rw[if_neg h3]
    exact⟨fun h=>(by cases h),fun h=>absurd (within_iff.2 h.2.2.1) h3⟩
 ·rw[if_neg h1]
  exact⟨fun h=>(by cases h),fun h=>absurd h.1 h1⟩
theorem vs_iff{ks rs l:List AV}{fl:Int}{s:ST} :stE ks rs l fl s.t s.mo s.dn s.ha s.ba s.to s.dw s.up=0↔VS ks rs l fl s:=by
 unfold stE
 by_cases h1:Zab s.t 0 1000000000000=true
 ·rw[if_pos h1]
  have h1:=within_iff.1 h1
  by_cases h2:s.dn.length≤l.length∧(s.dw.length:Int)≤fl∧(s.up.length:Int)≤fl
  ·rw[if_pos h2]
   by_cases h3:Zn4 rs ks l s.dn s.t s.dn.length 0=0
   ·rw[if_pos h3,ZnH]
    have h3:=(ZfF _ _).1 h3
    constructor
    ·rintro⟨a,b,c,d,e,f⟩
     exact⟨h1,h2,fun i hi=>h3 i (by omega) (by omega),a,b,c,d,downR_zero.1 e,upR_zero.1 f⟩
    ·intro h
     exact⟨h.mode,h.halt,h.base,h.told,downR_zero.2 h.down,upR_zero.2 h.up⟩
   ·rw[if_neg h3]
    exact⟨fun h=>absurd h h3,fun h=>absurd ((ZfF _ _).2 fun j _ hj=>h.done j (by omega)) h3⟩
  ·rw[if_neg h2]
   exact⟨fun h=>(by cases h),fun h=>absurd h.len h2⟩
 ·rw[if_neg h1]
  exact⟨fun h=>(by cases h),fun h=>absurd (within_iff.2 h.t) h1⟩
theorem ZdY{xs:List AV}{x:AV}{i k:Nat}(h:i<xs.length):Zaj (xs++[x]) i k=Zaj xs i k:=by
 unfold Zaj
 rw[List.getD_eq_getElem?_getD,List.getD_eq_getElem?_getD,Int.toNat_natCast,List.getElem?_append_left h]
theorem ZdI{xs:List AV}{x:AV}{k:Nat} :Zaj (xs++[x]) xs.length k=(x.cellAt k).toI:=by
 unfold Zaj
 rw[List.getD_eq_getElem?_getD,Int.toNat_natCast,List.getElem?_append_right (Nat.le_refl _),Nat.sub_self];rfl
theorem ZkM{ks l dn:List AV}{x:AV}{i:Nat}(h:i≤dn.length):m0L ks l (dn++[x]) i=m0L ks l dn i:=by
 unfold m0L
 rw[←ZjH l (dn++[x]) dn.length i 0 _ (by omega),List.take_left]
theorem Zrc{ks rs l dn:List AV}{x:AV}{t:Int}{i:Nat}(h:i<dn.length)(hd:ZC9 ks rs l dn t i):ZC9 ks rs l (dn++[x]) t i:=by
 obtain⟨a,b,c,d⟩:=hd
 refine⟨by rw[ZdY h];exact a,by rw[ZdY h];exact b,fun hi=>by rw[ZdY h,ZdY (by omega)];exact c hi,by rw[ZdY h,ZkM (by omega)];exact d⟩
theorem ZmH{α:Type}{l:List α}{n:Int}{x:α}(h:x∈Zbm l n):x∈l:=by
 unfold Zbm at h
 rcases List.mem_append.1 h with h |h
 ·exact List.mem_of_mem_take h
 ·exact List.mem_of_mem_drop h
theorem Zme{α:Type}(l:List α)(n:Int):(Zbm l n).length≤l.length:=by
 unfold Zbm
 simp only[List.length_append,List.length_take,List.length_drop];omega
theorem Zs1{ks rs l:List AV}{fl:Int}{s:ST}(h:VS ks rs l fl s):VS ks rs l fl (ZcL fl s):=by
 unfold ZcL ZBe
 split
 ·rename_i hu
  refine⟨h.t,⟨h.len.1,h.len.2.1,?_⟩,h.done,h.mode,h.halt,h.base,h.told,h.down,fun x hx=>?_⟩
  ·simp only[List.length_append,List.length_cons,List.length_nil];omega
  ·rcases List.mem_append.1 hx with hx |hx
   ·exact h.up x hx
   ·simp only[List.mem_singleton]at hx
    subst hx
    exact⟨⟨by simp[upV,AV.cellAt,AV.toI],by simp[upV,AV.cellAt,AV.toI]⟩,fun hb=>⟨by simpa[upV,AV.cellAt,AV.toB]using hb,by simp[upV,AV.cellAt,AV.toI]⟩⟩
 ·exact h
theorem ZAD{ks rs l:List AV}{fl:Int}{s:ST}(h:VS ks rs l fl s){a:Int}(ha:0≤a∧a≤(l.length:Int)-1):VS ks rs l fl (Ze0 ks rs l s a):=by
 unfold Ze0
 split
 ·rename_i hc
  obtain⟨hc1,hc2⟩:=hc
  have hto:s.to=false:=by
   cases ht:s.to
   ·rfl
   ·have:=(h.told ht).1;rw[hc1]at this;cases this
  have hu:∀x∈s.up,(x.cellAt 1).toB=false:=fun x hx=>by
   cases hb:(x.cellAt 1).toB
   ·rfl
   ·have:=((h.up x hx).2 hb).1;rw[hc1]at this;cases this
  have hlt:s.dn.length<l.length:=by omega
  split
  ·rename_i hn
   refine⟨h.t,⟨?_,h.len.2⟩,fun i hi=>?_,?_,fun hh=>?_,⟨h.base.1,?_⟩,fun hh=>?_,h.down,fun x hx=>?_⟩
   ·simp only[List.length_append,List.length_cons,List.length_nil];omega
   ·simp only[List.length_append,List.length_cons,List.length_nil]at hi
    by_cases hi2:i<s.dn.length
    ·exact Zrc hi2 (h.done i hi2)
    ·obtain rfl:i=s.dn.length:=by omega
     refine⟨by rw[ZdI];exact hc2.symm▸rfl,by rw[ZdI];exact Int.le_refl _,fun h0=>?_,?_⟩
     ·rw[ZdI,ZdY (by omega)]
      exact(h.done (s.dn.length-1) (by omega)).2.1
     ·rw[ZdI,ZkM (Nat.le_refl _)]
      exact hn
   ·simp
   ·rw[show s.ha=true from hh]at hc1;cases hc1
   ·simp only[List.length_append,List.length_cons,List.length_nil];have:=h.base.2;omega
   ·rw[show s.to=true from hh]at hto;cases hto
   ·obtain⟨g1,_⟩:=h.up x hx
    refine⟨⟨g1.1,?_⟩,fun hb=>by rw[hu x hx]at hb;cases hb⟩
    simp only[List.length_append,List.length_cons,List.length_nil];omega
  ·exact⟨h.t,h.len,h.done,h.mode,fun _=>by show s.dn.length≠l.length;omega,h.base,fun hh=>(by rw[show s.to=true from hh]at hto;cases hto),h.down,fun x hx=>⟨(h.up x hx).1,fun hb=>by rw[hu x hx]at hb;cases hb⟩⟩
 ·exact h
theorem Zey{α:Type}{xs:List α}{n:Nat}{d:α}(h:n<xs.length):xs.getD n d∈xs:=by
 rw[List.getD_eq_getElem?_getD,List.getElem?_eq_getElem h];exact List.getElem_mem h
theorem Zmp{ks rs l:List AV}{wn fl:Int}{s:ST}{k n:Int}(h:VS ks rs l fl s)(hv:evE k n=0)(he:ZaR l wn fl s k n=0):VS ks rs l fl (appS ks rs l fl s k n):=by
 have hv0:Zab k 0 8=true:=by
  unfold evE at hv
  split at hv
  ·assumption
  ·cases hv
 unfold evE at hv
 rw[if_pos hv0]at hv
 unfold appS
 unfold ZaR at he
 split
 ·rename_i h0
  rw[if_pos h0]at hv he
  have hv:=within_iff.1 (ZaN hv (by decide))
  have hn:s.t+n≤1000000000000:=by
   split at he
   ·cases he
   ·omega
  refine⟨⟨by show 0≤s.t+n;have:=h.t;omega,hn⟩,h.len,fun i hi=>?_,h.mode,h.halt,h.base,h.told,h.down,h.up⟩
  obtain⟨a,b,c,d⟩:=h.done i hi
  exact⟨a,by show Zaj s.dn i 1≤s.t+n;omega,c,d⟩
 rename_i h0
 rw[if_neg h0]at hv he
 split
 ·rename_i h1
  rw[if_pos h1]at hv he
  have hv:=within_iff.1 (ZaN hv (by decide))
  split at he
  ·rename_i hl
   split at he
   ·cases he
   ·split at he
    ·split at he
     ·rename_i hd
      refine⟨h.t,⟨h.len.1,?_,h.len.2.2⟩,h.done,h.mode,h.halt,h.base,h.told,fun x hx=>?_,h.up⟩
      ·simp only[List.length_append,List.length_cons,List.length_nil];omega
      ·rcases List.mem_append.1 hx with hx |hx
       ·exact h.down x hx
       ·simp only[List.mem_singleton]at hx;subst hx;omega
     ·cases he
    ·cases he
  ·cases he
 rename_i h1
 rw[if_neg h1]at hv he
 have cutD:VS ks rs l fl { s with dw:=Zbm s.dw n } :=⟨h.t,⟨h.len.1,by have:=Zme s.dw n;have:=h.len.2.1;show((Zbm s.dw n).length:Int)≤fl;omega,h.len.2.2⟩,h.done,h.mode,h.halt,h.base,h.told,fun x hx=>h.down x (ZmH hx),h.up⟩
 have cutU:∀x∈Zbm s.up n,x∈s.up:=fun x hx=>ZmH hx
 have cutUl:((Zbm s.up n).length:Int)≤fl:=by have:=Zme s.up n;have:=h.len.2.2;omega
 have pos:Zab k 2 6=true→0≤n:=fun hk=>by
  rw[if_pos hk]at hv
  exact(within_iff.1 (ZaN hv (by decide))).1
 split
 ·rename_i h2
  rw[if_pos (.inl h2)]at he
  have hn0:=pos (within_iff.2 (by omega))
  split at he
  ·rename_i hd
   exact Zs1 (ZAD cutD (h.down _ (Zey (by omega))))
  ·cases he
 rename_i h2
 split
 ·rename_i h3
  rw[if_neg (by omega),if_pos (.inl h3)]at he
  have hn0:=pos (within_iff.2 (by omega))
  split at he
  ·rename_i hu
   have hlt:n.toNat<s.up.length:=by omega
   obtain⟨⟨g1,g2⟩,g3⟩:=h.up _ (Zey (d:=.top) hlt)
   have e0:Zaj s.up n 0=((s.up.getD n.toNat .top).cellAt 0).toI:=rfl
   have hb:=h.base
   refine⟨h.t,⟨h.len.1,h.len.2.1,cutUl⟩,h.done,h.mode,h.halt,?_,fun ht=>?_,h.down,fun x hx=>h.up x (cutU x hx)⟩
   ·show 0≤max s.ba (Zaj s.up n 0)∧max s.ba (Zaj s.up n 0)≤s.dn.length
    rw[e0];omega
   ·show s.ha=true∧max s.ba (Zaj s.up n 0)=s.dn.length
    rw[e0]
    have ht:(s.to||((s.up.getD n.toNat .top).cellAt 1).toB)=true:=ht
    rw[Bool.or_eq_true]at ht
    rcases ht with ht |ht
    ·obtain⟨k1,k2⟩:=h.told ht
     exact⟨k1,by omega⟩
    ·obtain⟨k1,k2⟩:=g3 ht
     exact⟨k1,by omega⟩
  ·cases he
 rename_i h3
 split
 ·exact cutD
 rename_i h4
 split
 ·exact⟨h.t,⟨h.len.1,h.len.2.1,cutUl⟩,h.done,h.mode,h.halt,h.base,h.told,h.down,fun x hx=>h.up x (cutU x hx)⟩
 rename_i h5
 split
 ·rename_i h6
  rw[if_neg (by omega),if_neg (by omega),if_pos h6]at he
  have hn0:=pos (within_iff.2 (by omega))
  split at he
  ·split at he
   ·refine⟨h.t,⟨h.len.1,?_,h.len.2.2⟩,h.done,h.mode,h.halt,h.base,h.told,fun x hx=>?_,h.up⟩
    ·simp only[List.length_append,List.length_cons,List.length_nil];omega
    ·rcases List.mem_append.1 hx with hx |hx
     ·exact h.down x hx
     ·simp only[List.mem_singleton]at hx;subst hx;exact h.down _ (Zey (by omega))
   ·cases he
  ·cases he
 split
 ·exact⟨h.t,h.len,h.done,h.mode,h.halt,⟨Int.le_refl 0,by show(0:Int)≤s.dn.length;omega⟩,fun ht=>(by cases ht),h.down,h.up⟩
 ·exact Zs1 h
end Go.Proofs.YtkeoeooghhjibaaGreatDoor
/- Paths of functions, printed by the explorer (Gx). No condition. -/
namespace Go.Proofs.YtkeoeooghhjibaaGreatDoor
set_option maxRecDepth 100000
set_option linter.unusedVariables false
def ZoL(ms ks rs l:List AV)(wn fl at0 mo:Int)(dn:List AV)(ha:Bool)(ba:Int)(to:Bool)(dw:List Int)(up:List AV)(en:Int):AFrame:={ fn:=49,N:=208,env:=[(0,AV.agg (Row.gen [.list (Row.big .str ms), .list (Row.big (.agg [.str, .int .i64]) ks), .list (Row.big (.agg [.str, .int .i64, .int .i64, .int .i64, .int .i64]) rs), .list (Row.big (.agg [.int .i64, .int .i64, .int .i64]) l), .int .i64 wn, .int .i64 fl])),(1,AV.agg (Row.gen [.int .i64 at0, .int .i64 mo, .list (Row.big (.agg [.int .i64, .int .i64]) dn), .bool ha, .int .i64 ba, .bool to, .list (.ints .i64 dw), .list (Row.big (.agg [.int .i64, .bool]) up)])),(2,AV.agg (Row.gen [.int .i64 0, .int .i64 en]))],todo:=[.code a49.code],defs:=[],rnd:=none,ret:=false,res:=[ARes.cell 6 true 8,ARes.tmp 7] }
def ZAp(ms ks rs l:List AV)(wn fl at0 mo:Int)(dn:List AV)(ha:Bool)(ba:Int)(to:Bool)(dw:List Int)(up:List AV)(en:Int):List AFrame:=[(ZoL ms ks rs l wn fl at0 mo dn ha ba to dw up en)]
theorem Zpb(ms ks rs l:List AV)(wn fl at0 mo:Int)(dn:List AV)(ha:Bool)(ba:Int)(to:Bool)(dw:List Int)(up:List AV)(en:Int):Zar tab 49 [AV.agg (Row.gen [.list (Row.big .str ms), .list (Row.big (.agg [.str, .int .i64]) ks), .list (Row.big (.agg [.str, .int .i64, .int .i64, .int .i64, .int .i64]) rs), .list (Row.big (.agg [.int .i64, .int .i64, .int .i64]) l), .int .i64 wn, .int .i64 fl]),AV.agg (Row.gen [.int .i64 at0, .int .i64 mo, .list (Row.big (.agg [.int .i64, .int .i64]) dn), .bool ha, .int .i64 ba, .bool to, .list (.ints .i64 dw), .list (Row.big (.agg [.int .i64, .bool]) up)]),AV.agg (Row.gen [.int .i64 0, .int .i64 en])]=some (ZoL ms ks rs l wn fl at0 mo dn ha ba to dw up en):=rfl
def ZkU(A:Ar)(K:KT)(F:FT)(ms ks rs l:List AV)(wn fl at0 mo:Int)(dn:List AV)(ha:Bool)(ba:Int)(to:Bool)(dw:List Int)(up:List AV)(en:Int):Prop:=rB [A.inR .i64 (A.sub (A.int (A.len dw)) 1),Nat.ble (0+A.lenA up) 4294967296,List.all [] fun x=>AV.bx x&&Nat.beq (Zae A x) 2,decide (List.length dw≤1000000),Nat.ble (0+A.lenA dn) 4294967296,List.all [] fun x=>AV.bx x&&Nat.beq (Zae A x) 2] (rB [!A.eq 0 3] (rB [!A.eq 0 5] (rB [A.eq 0 0] (rB [A.inR .i64 (A.sub 1000000000000 at0)] (bB (A.lt (A.sub 1000000000000 at0) en) (F (AV.tup [AV.agg (Row.gen [.int .i64 0, .int .i64 0,AV.nils, .bool false, .int .i64 0, .bool false,AV.nils,AV.nils]),AV.int .i64 2]) (none)) (rB [A.inR .i64 (A.add at0 en)] (F (AV.tup [AV.agg (Row.gen [.int .i64 (A.add at0 en), .int .i64 mo, .list (Row.big (.agg [.int .i64, .int .i64]) dn), .bool ha, .int .i64 ba, .bool to, .list (.ints .i64 dw), .list (Row.big (.agg [.int .i64, .bool]) up)]),AV.int .i64 0]) (none))))))))
theorem ZtC{A:Ar}{K:KT}{F:FT}{M:MT}{ms ks rs l:List AV}{wn fl at0 mo:Int}{dn:List AV}{ha:Bool}{ba:Int}{to:Bool}{dw:List Int}{up:List AV}{en:Int} :ZaH A tab Bn 49 K F M (.run 83 (.fy (.fy (.fy (.fy (.run 2 (.fy (.run 8 (.fy (.fy (.fy (.run 2 (.fy (.run 13 (.ty (.run 9 (.tf (.run 7 (.fn)) (.run 17 (.fn))))))))))))))))))) (ZAp ms ks rs l wn fl at0 mo dn ha ba to dw up en) []=ZkU A K F ms ks rs l wn fl at0 mo dn ha ba to dw up en:=by kernel_rfl
def Zob(ms ks rs l:List AV)(wn fl at0 mo:Int)(dn:List AV)(ha:Bool)(ba:Int)(to:Bool)(dw:List Int)(up:List AV)(en:Int):AFrame:={ fn:=49,N:=208,env:=[(0,AV.agg (Row.gen [.list (Row.big .str ms), .list (Row.big (.agg [.str, .int .i64]) ks), .list (Row.big (.agg [.str, .int .i64, .int .i64, .int .i64, .int .i64]) rs), .list (Row.big (.agg [.int .i64, .int .i64, .int .i64]) l), .int .i64 wn, .int .i64 fl])),(1,AV.agg (Row.gen [.int .i64 at0, .int .i64 mo, .list (Row.big (.agg [.int .i64, .int .i64]) dn), .bool ha, .int .i64 ba, .bool to, .list (.ints .i64 dw), .list (Row.big (.agg [.int .i64, .bool]) up)])),(2,AV.agg (Row.gen [.int .i64 1, .int .i64 en]))],todo:=[.code a49.code],defs:=[],rnd:=none,ret:=false,res:=[ARes.cell 6 true 8,ARes.tmp 7] }
def ZAj(ms ks rs l:List AV)(wn fl at0 mo:Int)(dn:List AV)(ha:Bool)(ba:Int)(to:Bool)(dw:List Int)(up:List AV)(en:Int):List AFrame:=[(Zob ms ks rs l wn fl at0 mo dn ha ba to dw up en)]
theorem Zpq(ms ks rs l:List AV)(wn fl at0 mo:Int)(dn:List AV)(ha:Bool)(ba:Int)(to:Bool)(dw:List Int)(up:List AV)(en:Int):Zar tab 49 [AV.agg (Row.gen [.list (Row.big .str ms), .list (Row.big (.agg [.str, .int .i64]) ks), .list (Row.big (.agg [.str, .int .i64, .int .i64, .int .i64, .int .i64]) rs), .list (Row.big (.agg [.int .i64, .int .i64, .int .i64]) l), .int .i64 wn, .int .i64 fl]),AV.agg (Row.gen [.int .i64 at0, .int .i64 mo, .list (Row.big (.agg [.int .i64, .int .i64]) dn), .bool ha, .int .i64 ba, .bool to, .list (.ints .i64 dw), .list (Row.big (.agg [.int .i64, .bool]) up)]),AV.agg (Row.gen [.int .i64 1, .int .i64 en])]=some (Zob ms ks rs l wn fl at0 mo dn ha ba to dw up en):=rfl
def ZfD(A:Ar)(K:KT)(F:FT)(ms ks rs l:List AV)(wn fl at0 mo:Int)(dn:List AV)(ha:Bool)(ba:Int)(to:Bool)(dw:List Int)(up:List AV)(en:Int):Prop:=rB [A.inR .i64 (A.sub (A.int (A.len dw)) 1),Nat.ble (0+A.lenA up) 4294967296,List.all [] fun x=>AV.bx x&&Nat.beq (Zae A x) 2,decide (List.length dw≤1000000),Nat.ble (0+A.lenA dn) 4294967296,List.all [] fun x=>AV.bx x&&Nat.beq (Zae A x) 2] (rB [!A.eq 1 3] (rB [!A.eq 1 5] (rB [!A.eq 1 0] (rB [A.eq 1 1] (bB (A.le (A.int (A.lenA l)) en) (F (AV.tup [AV.agg (Row.gen [.int .i64 0, .int .i64 0,AV.nils, .bool false, .int .i64 0, .bool false,AV.nils,AV.nils]),AV.int .i64 6]) (none)) (bB (to) (F (AV.tup [AV.agg (Row.gen [.int .i64 0, .int .i64 0,AV.nils, .bool false, .int .i64 0, .bool false,AV.nils,AV.nils]),AV.int .i64 21]) (none)) (rB [A.inR .i64 (A.sub (A.add ba wn) 1),A.inR .i64 (A.add ba wn)] (bB (A.not (Zab en ba (A.sub (A.add ba wn) 1))) (F (AV.tup [AV.agg (Row.gen [.int .i64 0, .int .i64 0,AV.nils, .bool false, .int .i64 0, .bool false,AV.nils,AV.nils]),AV.int .i64 26]) (none)) (bB (A.le fl (A.int (A.len dw))) (F (AV.tup [AV.agg (Row.gen [.int .i64 0, .int .i64 0,AV.nils, .bool false, .int .i64 0, .bool false,AV.nils,AV.nils]),AV.int .i64 16]) (none)) (rB [Nat.ble (A.len dw+A.len [en]) 4294967296,List.all [AV.int .i64 en] fun x=>AV.bx x&&Nat.beq (Zae A x) 1] (F (AV.tup [AV.agg (Row.gen [.int .i64 at0, .int .i64 mo, .list (Row.big (.agg [.int .i64, .int .i64]) dn), .bool ha, .int .i64 ba, .bool to, .list (.ints .i64 (A.app dw [en])), .list (Row.big (.agg [.int .i64, .bool]) up)]),AV.int .i64 0]) (none))))))))))))
theorem ZuN{A:Ar}{K:KT}{F:FT}{M:MT}{ms ks rs l:List AV}{wn fl at0 mo:Int}{dn:List AV}{ha:Bool}{ba:Int}{to:Bool}{dw:List Int}{up:List AV}{en:Int} :ZaH A tab Bn 49 K F M (.run 83 (.fy (.fy (.fy (.fy (.run 2 (.fy (.run 8 (.fy (.fy (.fy (.run 2 (.fy (.run 13 (.fy (.run 5 (.ty (.run 9 (.tf (.run 7 (.fn)) (.run 7 (.tf (.run 7 (.fn)) (.run 17 (.tf (.run 7 (.fn)) (.run 11 (.tf (.run 7 (.fn)) (.run 18 (.fn))))))))))))))))))))))))))) (ZAj ms ks rs l wn fl at0 mo dn ha ba to dw up en) []=ZfD A K F ms ks rs l wn fl at0 mo dn ha ba to dw up en:=by kernel_rfl
def Zoj(ms ks rs l:List AV)(wn fl at0 mo:Int)(dn:List AV)(ha:Bool)(ba:Int)(to:Bool)(dw:List Int)(up:List AV)(en:Int):AFrame:={ fn:=49,N:=208,env:=[(0,AV.agg (Row.gen [.list (Row.big .str ms), .list (Row.big (.agg [.str, .int .i64]) ks), .list (Row.big (.agg [.str, .int .i64, .int .i64, .int .i64, .int .i64]) rs), .list (Row.big (.agg [.int .i64, .int .i64, .int .i64]) l), .int .i64 wn, .int .i64 fl])),(1,AV.agg (Row.gen [.int .i64 at0, .int .i64 mo, .list (Row.big (.agg [.int .i64, .int .i64]) dn), .bool ha, .int .i64 ba, .bool to, .list (.ints .i64 dw), .list (Row.big (.agg [.int .i64, .bool]) up)])),(2,AV.agg (Row.gen [.int .i64 3, .int .i64 en]))],todo:=[.code a49.code],defs:=[],rnd:=none,ret:=false,res:=[ARes.cell 6 true 8,ARes.tmp 7] }
def ZAt(ms ks rs l:List AV)(wn fl at0 mo:Int)(dn:List AV)(ha:Bool)(ba:Int)(to:Bool)(dw:List Int)(up:List AV)(en:Int):List AFrame:=[(Zoj ms ks rs l wn fl at0 mo dn ha ba to dw up en)]
theorem ZpP(ms ks rs l:List AV)(wn fl at0 mo:Int)(dn:List AV)(ha:Bool)(ba:Int)(to:Bool)(dw:List Int)(up:List AV)(en:Int):Zar tab 49 [AV.agg (Row.gen [.list (Row.big .str ms), .list (Row.big (.agg [.str, .int .i64]) ks), .list (Row.big (.agg [.str, .int .i64, .int .i64, .int .i64, .int .i64]) rs), .list (Row.big (.agg [.int .i64, .int .i64, .int .i64]) l), .int .i64 wn, .int .i64 fl]),AV.agg (Row.gen [.int .i64 at0, .int .i64 mo, .list (Row.big (.agg [.int .i64, .int .i64]) dn), .bool ha, .int .i64 ba, .bool to, .list (.ints .i64 dw), .list (Row.big (.agg [.int .i64, .bool]) up)]),AV.agg (Row.gen [.int .i64 3, .int .i64 en])]=some (Zoj ms ks rs l wn fl at0 mo dn ha ba to dw up en):=rfl
def ZiS(A:Ar)(K:KT)(F:FT)(ms ks rs l:List AV)(wn fl at0 mo:Int)(dn:List AV)(ha:Bool)(ba:Int)(to:Bool)(dw:List Int)(up:List AV)(en:Int):Prop:=rB [A.inR .i64 (A.sub (A.int (A.len dw)) 1),Nat.ble (0+A.lenA up) 4294967296,List.all [] fun x=>AV.bx x&&Nat.beq (Zae A x) 2,decide (List.length dw≤1000000),Nat.ble (0+A.lenA dn) 4294967296,List.all [] fun x=>AV.bx x&&Nat.beq (Zae A x) 2] (rB [A.eq 3 3] (rB [A.inR .i64 (A.sub (A.int (A.lenA up)) 1)] (bB (A.not (Zab en 0 (A.sub (A.int (A.lenA up)) 1))) (F (AV.tup [AV.agg (Row.gen [.int .i64 0, .int .i64 0,AV.nils, .bool false, .int .i64 0, .bool false,AV.nils,AV.nils]),AV.int .i64 6]) (none)) (rB [!A.eq 3 0] (rB [!A.eq 3 1] (rB [!A.eq 3 2] (rB [A.eq 3 3] (rB [Zag (Nat.ble (A.nat en-0+A.lenA (A.subA up (A.nat (A.add en 1)) (A.lenA up-A.nat (A.add en 1)))) (A.lenA (A.appA (A.appA (A.subA up 0 (A.nat en-0)) (A.subA up (A.nat (A.add en 1)) (A.lenA up-A.nat (A.add en 1)))) (A.subA up (A.nat en-0+A.lenA (A.subA up (A.nat (A.add en 1)) (A.lenA up-A.nat (A.add en 1)))) (A.lenA up))))) true,Zag (Zag (Nat.ble (A.nat (A.add en 1)+(A.lenA up-A.nat (A.add en 1))) (A.lenA up)) true) (Zag (Nat.ble (A.nat en-0+A.lenA (A.subA up (A.nat (A.add en 1)) (A.lenA up-A.nat (A.add en 1)))) (A.lenA up)) (Nat.blt 0 (A.lenA up))),Zag (Zag (A.le 0 (A.add en 1)) true) (Zag (Zag (Nat.ble (A.nat (A.add en 1)) (A.lenA up)) (Nat.ble (A.lenA up) (A.lenA up))) true),A.inR .i64 (A.add en 1),Zag (A.le 0 en) (Zag (Zag (Nat.ble 0 (A.nat en)) (Nat.ble (A.nat en) (A.lenA up))) true),Zag (Nat.blt (A.nat en) (A.lenA up)) true,Zag (A.le 0 en) (Nat.blt (A.nat en) (A.lenA up))] (bB (to) (F (AV.tup [AV.agg (Row.gen [.int .i64 at0, .int .i64 mo, .list (Row.big (.agg [.int .i64, .int .i64]) dn), .bool ha, .int .i64 (A.max ba ((A.nthA up (A.nat en)).cellAt 0).toI), .bool true, .list (.ints .i64 dw), .list (Row.big (.agg [.int .i64, .bool]) (A.subA (A.appA (A.appA (A.subA up 0 (A.nat en-0)) (A.subA up (A.nat (A.add en 1)) (A.lenA up-A.nat (A.add en 1)))) (A.subA up (A.nat en-0+A.lenA (A.subA up (A.nat (A.add en 1)) (A.lenA up-A.nat (A.add en 1)))) (A.lenA up))) 0 (A.nat en-0+A.lenA (A.subA up (A.nat (A.add en 1)) (A.lenA up-A.nat (A.add en 1))))))]),AV.int .i64 0]) (none)) (F (AV.tup [AV.agg (Row.gen [.int .i64 at0, .int .i64 mo, .list (Row.big (.agg [.int .i64, .int .i64]) dn), .bool ha, .int .i64 (A.max ba ((A.nthA up (A.nat en)).cellAt 0).toI), .bool ((A.nthA up (A.nat en)).cellAt 1).toB, .list (.ints .i64 dw), .list (Row.big (.agg [.int .i64, .bool]) (A.subA (A.appA (A.appA (A.subA up 0 (A.nat en-0)) (A.subA up (A.nat (A.add en 1)) (A.lenA up-A.nat (A.add en 1)))) (A.subA up (A.nat en-0+A.lenA (A.subA up (A.nat (A.add en 1)) (A.lenA up-A.nat (A.add en 1)))) (A.lenA up))) 0 (A.nat en-0+A.lenA (A.subA up (A.nat (A.add en 1)) (A.lenA up-A.nat (A.add en 1))))))]),AV.int .i64 0]) (none)))))))))))
theorem ZwA{A:Ar}{K:KT}{F:FT}{M:MT}{ms ks rs l:List AV}{wn fl at0 mo:Int}{dn:List AV}{ha:Bool}{ba:Int}{to:Bool}{dw:List Int}{up:List AV}{en:Int} :ZaH A tab Bn 49 K F M (.run 83 (.ty (.ty (.ty (.ty (.run 2 (.ty (.run 16 (.ty (.ty (.ty (.run 2 (.tf (.run 7 (.fn)) (.run 13 (.fy (.run 5 (.fy (.run 5 (.fy (.run 5 (.ty (.run 28 (.tf (.ty (.ty (.run 11 (.fn)))) (.fy (.fy (.run 11 (.fn))))))))))))))))))))))))))) (ZAt ms ks rs l wn fl at0 mo dn ha ba to dw up en) []=ZiS A K F ms ks rs l wn fl at0 mo dn ha ba to dw up en:=by kernel_rfl
def ZpU(ms ks rs l:List AV)(wn fl at0 mo:Int)(dn:List AV)(ha:Bool)(ba:Int)(to:Bool)(dw:List Int)(up:List AV)(en:Int):AFrame:={ fn:=49,N:=208,env:=[(0,AV.agg (Row.gen [.list (Row.big .str ms), .list (Row.big (.agg [.str, .int .i64]) ks), .list (Row.big (.agg [.str, .int .i64, .int .i64, .int .i64, .int .i64]) rs), .list (Row.big (.agg [.int .i64, .int .i64, .int .i64]) l), .int .i64 wn, .int .i64 fl])),(1,AV.agg (Row.gen [.int .i64 at0, .int .i64 mo, .list (Row.big (.agg [.int .i64, .int .i64]) dn), .bool ha, .int .i64 ba, .bool to, .list (.ints .i64 dw), .list (Row.big (.agg [.int .i64, .bool]) up)])),(2,AV.agg (Row.gen [.int .i64 4, .int .i64 en]))],todo:=[.code a49.code],defs:=[],rnd:=none,ret:=false,res:=[ARes.cell 6 true 8,ARes.tmp 7] }
def ZxM(ms ks rs l:List AV)(wn fl at0 mo:Int)(dn:List AV)(ha:Bool)(ba:Int)(to:Bool)(dw:List Int)(up:List AV)(en:Int):List AFrame:=[(ZpU ms ks rs l wn fl at0 mo dn ha ba to dw up en)]
theorem Zp1(ms ks rs l:List AV)(wn fl at0 mo:Int)(dn:List AV)(ha:Bool)(ba:Int)(to:Bool)(dw:List Int)(up:List AV)(en:Int):Zar tab 49 [AV.agg (Row.gen [.list (Row.big .str ms), .list (Row.big (.agg [.str, .int .i64]) ks), .list (Row.big (.agg [.str, .int .i64, .int .i64, .int .i64, .int .i64]) rs), .list (Row.big (.agg [.int .i64, .int .i64, .int .i64]) l), .int .i64 wn, .int .i64 fl]),AV.agg (Row.gen [.int .i64 at0, .int .i64 mo, .list (Row.big (.agg [.int .i64, .int .i64]) dn), .bool ha, .int .i64 ba, .bool to, .list (.ints .i64 dw), .list (Row.big (.agg [.int .i64, .bool]) up)]),AV.agg (Row.gen [.int .i64 4, .int .i64 en])]=some (ZpU ms ks rs l wn fl at0 mo dn ha ba to dw up en):=rfl
def Zlg(A:Ar)(K:KT)(F:FT)(ms ks rs l:List AV)(wn fl at0 mo:Int)(dn:List AV)(ha:Bool)(ba:Int)(to:Bool)(dw:List Int)(up:List AV)(en:Int):Prop:=rB [A.inR .i64 (A.sub (A.int (A.len dw)) 1),Nat.ble (0+A.lenA up) 4294967296,List.all [] fun x=>AV.bx x&&Nat.beq (Zae A x) 2,decide (List.length dw≤1000000),Nat.ble (0+A.lenA dn) 4294967296,List.all [] fun x=>AV.bx x&&Nat.beq (Zae A x) 2] (rB [!A.eq 4 3] (rB [!A.eq 4 5] (bB (A.not (Zab en 0 (A.sub (A.int (A.len dw)) 1))) (F (AV.tup [AV.agg (Row.gen [.int .i64 0, .int .i64 0,AV.nils, .bool false, .int .i64 0, .bool false,AV.nils,AV.nils]),AV.int .i64 6]) (none)) (rB [!A.eq 4 0] (rB [!A.eq 4 1] (rB [!A.eq 4 2] (rB [!A.eq 4 3] (rB [A.eq 4 4] (rB [Zag (Nat.ble (A.nat en-0+A.len (A.sub3 dw (A.nat (A.add en 1)) (A.len dw-A.nat (A.add en 1)))) (A.len (A.app (A.app (A.sub3 dw 0 (A.nat en-0)) (A.sub3 dw (A.nat (A.add en 1)) (A.len dw-A.nat (A.add en 1)))) (A.sub3 dw (A.nat en-0+A.len (A.sub3 dw (A.nat (A.add en 1)) (A.len dw-A.nat (A.add en 1)))) (A.len dw))))) true,Zag (Zag (Nat.ble (A.nat (A.add en 1)+(A.len dw-A.nat (A.add en 1))) (A.len dw)) true) (Zag (Nat.ble (A.nat en-0+A.len (A.sub3 dw (A.nat (A.add en 1)) (A.len dw-A.nat (A.add en 1)))) (A.len dw)) (Nat.blt 0 (A.len dw))),Zag (Zag (A.le 0 (A.add en 1)) true) (Zag (Zag (Nat.ble (A.nat (A.add en 1)) (A.len dw)) (Nat.ble (A.len dw) (A.len dw))) true),A.inR .i64 (A.add en 1),Zag (A.le 0 en) (Zag (Zag (Nat.ble 0 (A.nat en)) (Nat.ble (A.nat en) (A.len dw))) true)] (F (AV.tup [AV.agg (Row.gen [.int .i64 at0, .int .i64 mo, .list (Row.big (.agg [.int .i64, .int .i64]) dn), .bool ha, .int .i64 ba, .bool to, .list (.ints .i64 (A.sub3 (A.app (A.app (A.sub3 dw 0 (A.nat en-0)) (A.sub3 dw (A.nat (A.add en 1)) (A.len dw-A.nat (A.add en 1)))) (A.sub3 dw (A.nat en-0+A.len (A.sub3 dw (A.nat (A.add en 1)) (A.len dw-A.nat (A.add en 1)))) (A.len dw))) 0 (A.nat en-0+A.len (A.sub3 dw (A.nat (A.add en 1)) (A.len dw-A.nat (A.add en 1)))))), .list (Row.big (.agg [.int .i64, .bool]) up)]),AV.int .i64 0]) (none)))))))))))
theorem ZvX{A:Ar}{K:KT}{F:FT}{M:MT}{ms ks rs l:List AV}{wn fl at0 mo:Int}{dn:List AV}{ha:Bool}{ba:Int}{to:Bool}{dw:List Int}{up:List AV}{en:Int} :ZaH A tab Bn 49 K F M (.run 83 (.fy (.fy (.fy (.fy (.run 2 (.fy (.run 8 (.ty (.ty (.ty (.run 2 (.tf (.run 7 (.fn)) (.run 13 (.fy (.run 5 (.fy (.run 5 (.fy (.run 5 (.fy (.run 5 (.ty (.run 9 (.fn))))))))))))))))))))))))) (ZxM ms ks rs l wn fl at0 mo dn ha ba to dw up en) []=Zlg A K F ms ks rs l wn fl at0 mo dn ha ba to dw up en:=by kernel_rfl
def ZpZ(ms ks rs l:List AV)(wn fl at0 mo:Int)(dn:List AV)(ha:Bool)(ba:Int)(to:Bool)(dw:List Int)(up:List AV)(en:Int):AFrame:={ fn:=49,N:=208,env:=[(0,AV.agg (Row.gen [.list (Row.big .str ms), .list (Row.big (.agg [.str, .int .i64]) ks), .list (Row.big (.agg [.str, .int .i64, .int .i64, .int .i64, .int .i64]) rs), .list (Row.big (.agg [.int .i64, .int .i64, .int .i64]) l), .int .i64 wn, .int .i64 fl])),(1,AV.agg (Row.gen [.int .i64 at0, .int .i64 mo, .list (Row.big (.agg [.int .i64, .int .i64]) dn), .bool ha, .int .i64 ba, .bool to, .list (.ints .i64 dw), .list (Row.big (.agg [.int .i64, .bool]) up)])),(2,AV.agg (Row.gen [.int .i64 5, .int .i64 en]))],todo:=[.code a49.code],defs:=[],rnd:=none,ret:=false,res:=[ARes.cell 6 true 8,ARes.tmp 7] }
def ZCf(ms ks rs l:List AV)(wn fl at0 mo:Int)(dn:List AV)(ha:Bool)(ba:Int)(to:Bool)(dw:List Int)(up:List AV)(en:Int):List AFrame:=[(ZpZ ms ks rs l wn fl at0 mo dn ha ba to dw up en)]
theorem ZpS(ms ks rs l:List AV)(wn fl at0 mo:Int)(dn:List AV)(ha:Bool)(ba:Int)(to:Bool)(dw:List Int)(up:List AV)(en:Int):Zar tab 49 [AV.agg (Row.gen [.list (Row.big .str ms), .list (Row.big (.agg [.str, .int .i64]) ks), .list (Row.big (.agg [.str, .int .i64, .int .i64, .int .i64, .int .i64]) rs), .list (Row.big (.agg [.int .i64, .int .i64, .int .i64]) l), .int .i64 wn, .int .i64 fl]),AV.agg (Row.gen [.int .i64 at0, .int .i64 mo, .list (Row.big (.agg [.int .i64, .int .i64]) dn), .bool ha, .int .i64 ba, .bool to, .list (.ints .i64 dw), .list (Row.big (.agg [.int .i64, .bool]) up)]),AV.agg (Row.gen [.int .i64 5, .int .i64 en])]=some (ZpZ ms ks rs l wn fl at0 mo dn ha ba to dw up en):=rfl
def Zlf(A:Ar)(K:KT)(F:FT)(ms ks rs l:List AV)(wn fl at0 mo:Int)(dn:List AV)(ha:Bool)(ba:Int)(to:Bool)(dw:List Int)(up:List AV)(en:Int):Prop:=rB [A.inR .i64 (A.sub (A.int (A.len dw)) 1),Nat.ble (0+A.lenA up) 4294967296,List.all [] fun x=>AV.bx x&&Nat.beq (Zae A x) 2,decide (List.length dw≤1000000),Nat.ble (0+A.lenA dn) 4294967296,List.all [] fun x=>AV.bx x&&Nat.beq (Zae A x) 2] (rB [!A.eq 5 3] (rB [A.eq 5 5] (rB [A.inR .i64 (A.sub (A.int (A.lenA up)) 1)] (bB (A.not (Zab en 0 (A.sub (A.int (A.lenA up)) 1))) (F (AV.tup [AV.agg (Row.gen [.int .i64 0, .int .i64 0,AV.nils, .bool false, .int .i64 0, .bool false,AV.nils,AV.nils]),AV.int .i64 6]) (none)) (rB [!A.eq 5 0] (rB [!A.eq 5 1] (rB [!A.eq 5 2] (rB [!A.eq 5 3] (rB [!A.eq 5 4] (rB [A.eq 5 5] (rB [Zag (Nat.ble (A.nat en-0+A.lenA (A.subA up (A.nat (A.add en 1)) (A.lenA up-A.nat (A.add en 1)))) (A.lenA (A.appA (A.appA (A.subA up 0 (A.nat en-0)) (A.subA up (A.nat (A.add en 1)) (A.lenA up-A.nat (A.add en 1)))) (A.subA up (A.nat en-0+A.lenA (A.subA up (A.nat (A.add en 1)) (A.lenA up-A.nat (A.add en 1)))) (A.lenA up))))) true,Zag (Zag (Nat.ble (A.nat (A.add en 1)+(A.lenA up-A.nat (A.add en 1))) (A.lenA up)) true) (Zag (Nat.ble (A.nat en-0+A.lenA (A.subA up (A.nat (A.add en 1)) (A.lenA up-A.nat (A.add en 1)))) (A.lenA up)) (Nat.blt 0 (A.lenA up))),Zag (Zag (A.le 0 (A.add en 1)) true) (Zag (Zag (Nat.ble (A.nat (A.add en 1)) (A.lenA up)) (Nat.ble (A.lenA up) (A.lenA up))) true),A.inR .i64 (A.add en 1),Zag (A.le 0 en) (Zag (Zag (Nat.ble 0 (A.nat en)) (Nat.ble (A.nat en) (A.lenA up))) true)] (F (AV.tup [AV.agg (Row.gen [.int .i64 at0, .int .i64 mo, .list (Row.big (.agg [.int .i64, .int .i64]) dn), .bool ha, .int .i64 ba, .bool to, .list (.ints .i64 dw), .list (Row.big (.agg [.int .i64, .bool]) (A.subA (A.appA (A.appA (A.subA up 0 (A.nat en-0)) (A.subA up (A.nat (A.add en 1)) (A.lenA up-A.nat (A.add en 1)))) (A.subA up (A.nat en-0+A.lenA (A.subA up (A.nat (A.add en 1)) (A.lenA up-A.nat (A.add en 1)))) (A.lenA up))) 0 (A.nat en-0+A.lenA (A.subA up (A.nat (A.add en 1)) (A.lenA up-A.nat (A.add en 1))))))]),AV.int .i64 0]) (none)))))))))))))
theorem Zwa{A:Ar}{K:KT}{F:FT}{M:MT}{ms ks rs l:List AV}{wn fl at0 mo:Int}{dn:List AV}{ha:Bool}{ba:Int}{to:Bool}{dw:List Int}{up:List AV}{en:Int} :ZaH A tab Bn 49 K F M (.run 83 (.fy (.fy (.fy (.fy (.run 2 (.ty (.run 16 (.ty (.ty (.ty (.run 2 (.tf (.run 7 (.fn)) (.run 13 (.fy (.run 5 (.fy (.run 5 (.fy (.run 5 (.fy (.run 5 (.fy (.run 5 (.ty (.run 9 (.fn))))))))))))))))))))))))))) (ZCf ms ks rs l wn fl at0 mo dn ha ba to dw up en) []=Zlf A K F ms ks rs l wn fl at0 mo dn ha ba to dw up en:=by kernel_rfl
def Zou(ms ks rs l:List AV)(wn fl at0 mo:Int)(dn:List AV)(ha:Bool)(ba:Int)(to:Bool)(dw:List Int)(up:List AV)(en:Int):AFrame:={ fn:=49,N:=208,env:=[(0,AV.agg (Row.gen [.list (Row.big .str ms), .list (Row.big (.agg [.str, .int .i64]) ks), .list (Row.big (.agg [.str, .int .i64, .int .i64, .int .i64, .int .i64]) rs), .list (Row.big (.agg [.int .i64, .int .i64, .int .i64]) l), .int .i64 wn, .int .i64 fl])),(1,AV.agg (Row.gen [.int .i64 at0, .int .i64 mo, .list (Row.big (.agg [.int .i64, .int .i64]) dn), .bool ha, .int .i64 ba, .bool to, .list (.ints .i64 dw), .list (Row.big (.agg [.int .i64, .bool]) up)])),(2,AV.agg (Row.gen [.int .i64 6, .int .i64 en]))],todo:=[.code a49.code],defs:=[],rnd:=none,ret:=false,res:=[ARes.cell 6 true 8,ARes.tmp 7] }
def Zzr(ms ks rs l:List AV)(wn fl at0 mo:Int)(dn:List AV)(ha:Bool)(ba:Int)(to:Bool)(dw:List Int)(up:List AV)(en:Int):List AFrame:=[(Zou ms ks rs l wn fl at0 mo dn ha ba to dw up en)]
theorem Zos(ms ks rs l:List AV)(wn fl at0 mo:Int)(dn:List AV)(ha:Bool)(ba:Int)(to:Bool)(dw:List Int)(up:List AV)(en:Int):Zar tab 49 [AV.agg (Row.gen [.list (Row.big .str ms), .list (Row.big (.agg [.str, .int .i64]) ks), .list (Row.big (.agg [.str, .int .i64, .int .i64, .int .i64, .int .i64]) rs), .list (Row.big (.agg [.int .i64, .int .i64, .int .i64]) l), .int .i64 wn, .int .i64 fl]),AV.agg (Row.gen [.int .i64 at0, .int .i64 mo, .list (Row.big (.agg [.int .i64, .int .i64]) dn), .bool ha, .int .i64 ba, .bool to, .list (.ints .i64 dw), .list (Row.big (.agg [.int .i64, .bool]) up)]),AV.agg (Row.gen [.int .i64 6, .int .i64 en])]=some (Zou ms ks rs l wn fl at0 mo dn ha ba to dw up en):=rfl
def ZiR(A:Ar)(K:KT)(F:FT)(ms ks rs l:List AV)(wn fl at0 mo:Int)(dn:List AV)(ha:Bool)(ba:Int)(to:Bool)(dw:List Int)(up:List AV)(en:Int):Prop:=rB [A.inR .i64 (A.sub (A.int (A.len dw)) 1),Nat.ble (0+A.lenA up) 4294967296,List.all [] fun x=>AV.bx x&&Nat.beq (Zae A x) 2,decide (List.length dw≤1000000),Nat.ble (0+A.lenA dn) 4294967296,List.all [] fun x=>AV.bx x&&Nat.beq (Zae A x) 2] (rB [!A.eq 6 3] (rB [!A.eq 6 5] (bB (A.not (Zab en 0 (A.sub (A.int (A.len dw)) 1))) (F (AV.tup [AV.agg (Row.gen [.int .i64 0, .int .i64 0,AV.nils, .bool false, .int .i64 0, .bool false,AV.nils,AV.nils]),AV.int .i64 6]) (none)) (rB [!A.eq 6 0] (rB [!A.eq 6 1] (rB [!A.eq 6 2] (rB [!A.eq 6 3] (rB [!A.eq 6 4] (rB [!A.eq 6 5] (rB [A.eq 6 6] (bB (A.le fl (A.int (A.len dw))) (F (AV.tup [AV.agg (Row.gen [.int .i64 0, .int .i64 0,AV.nils, .bool false, .int .i64 0, .bool false,AV.nils,AV.nils]),AV.int .i64 16]) (none)) (rB [Nat.ble (A.len dw+A.len [A.nth dw (A.nat en)]) 4294967296,List.all [AV.int .i64 (A.nth dw (A.nat en))] fun x=>AV.bx x&&Nat.beq (Zae A x) 1,Zag (Nat.blt (A.nat en) (A.len dw)) true,Zag (A.le 0 en) (Nat.blt (A.nat en) (A.len dw))] (F (AV.tup [AV.agg (Row.gen [.int .i64 at0, .int .i64 mo, .list (Row.big (.agg [.int .i64, .int .i64]) dn), .bool ha, .int .i64 ba, .bool to, .list (.ints .i64 (A.app dw [A.nth dw (A.nat en)])), .list (Row.big (.agg [.int .i64, .bool]) up)]),AV.int .i64 0]) (none))))))))))))))
theorem ZuA{A:Ar}{K:KT}{F:FT}{M:MT}{ms ks rs l:List AV}{wn fl at0 mo:Int}{dn:List AV}{ha:Bool}{ba:Int}{to:Bool}{dw:List Int}{up:List AV}{en:Int} :ZaH A tab Bn 49 K F M (.run 83 (.fy (.fy (.fy (.fy (.run 2 (.fy (.run 8 (.ty (.ty (.ty (.run 2 (.tf (.run 7 (.fn)) (.run 13 (.fy (.run 5 (.fy (.run 5 (.fy (.run 5 (.fy (.run 5 (.fy (.run 5 (.fy (.run 5 (.ty (.run 10 (.tf (.run 7 (.fn)) (.run 27 (.fn))))))))))))))))))))))))))))))) (Zzr ms ks rs l wn fl at0 mo dn ha ba to dw up en) []=ZiR A K F ms ks rs l wn fl at0 mo dn ha ba to dw up en:=by kernel_rfl
def Zqc(ms ks rs l:List AV)(wn fl at0 mo:Int)(dn:List AV)(ha:Bool)(ba:Int)(to:Bool)(dw:List Int)(up:List AV)(en:Int):AFrame:={ fn:=49,N:=208,env:=[(0,AV.agg (Row.gen [.list (Row.big .str ms), .list (Row.big (.agg [.str, .int .i64]) ks), .list (Row.big (.agg [.str, .int .i64, .int .i64, .int .i64, .int .i64]) rs), .list (Row.big (.agg [.int .i64, .int .i64, .int .i64]) l), .int .i64 wn, .int .i64 fl])),(1,AV.agg (Row.gen [.int .i64 at0, .int .i64 mo, .list (Row.big (.agg [.int .i64, .int .i64]) dn), .bool ha, .int .i64 ba, .bool to, .list (.ints .i64 dw), .list (Row.big (.agg [.int .i64, .bool]) up)])),(2,AV.agg (Row.gen [.int .i64 7, .int .i64 en]))],todo:=[.code a49.code],defs:=[],rnd:=none,ret:=false,res:=[ARes.cell 6 true 8,ARes.tmp 7] }
def ZCD(ms ks rs l:List AV)(wn fl at0 mo:Int)(dn:List AV)(ha:Bool)(ba:Int)(to:Bool)(dw:List Int)(up:List AV)(en:Int):List AFrame:=[(Zqc ms ks rs l wn fl at0 mo dn ha ba to dw up en)]
theorem ZoZ(ms ks rs l:List AV)(wn fl at0 mo:Int)(dn:List AV)(ha:Bool)(ba:Int)(to:Bool)(dw:List Int)(up:List AV)(en:Int):Zar tab 49 [AV.agg (Row.gen [.list (Row.big .str ms), .list (Row.big (.agg [.str, .int .i64]) ks), .list (Row.big (.agg [.str, .int .i64, .int .i64, .int .i64, .int .i64]) rs), .list (Row.big (.agg [.int .i64, .int .i64, .int .i64]) l), .int .i64 wn, .int .i64 fl]),AV.agg (Row.gen [.int .i64 at0, .int .i64 mo, .list (Row.big (.agg [.int .i64, .int .i64]) dn), .bool ha, .int .i64 ba, .bool to, .list (.ints .i64 dw), .list (Row.big (.agg [.int .i64, .bool]) up)]),AV.agg (Row.gen [.int .i64 7, .int .i64 en])]=some (Zqc ms ks rs l wn fl at0 mo dn ha ba to dw up en):=rfl
def Zot(A:Ar)(K:KT)(F:FT)(ms ks rs l:List AV)(wn fl at0 mo:Int)(dn:List AV)(ha:Bool)(ba:Int)(to:Bool)(dw:List Int)(up:List AV)(en:Int):Prop:=rB [A.inR .i64 (A.sub (A.int (A.len dw)) 1),Nat.ble (0+A.lenA up) 4294967296,List.all [] fun x=>AV.bx x&&Nat.beq (Zae A x) 2,decide (List.length dw≤1000000),Nat.ble (0+A.lenA dn) 4294967296,List.all [] fun x=>AV.bx x&&Nat.beq (Zae A x) 2] (rB [!A.eq 7 3] (rB [!A.eq 7 5] (rB [!A.eq 7 0] (rB [!A.eq 7 1] (rB [!A.eq 7 2] (rB [!A.eq 7 3] (rB [!A.eq 7 4] (rB [!A.eq 7 5] (rB [!A.eq 7 6] (rB [A.eq 7 7] (F (AV.tup [AV.agg (Row.gen [.int .i64 at0, .int .i64 mo, .list (Row.big (.agg [.int .i64, .int .i64]) dn), .bool ha, .int .i64 0, .bool false, .list (.ints .i64 dw), .list (Row.big (.agg [.int .i64, .bool]) up)]),AV.int .i64 0]) (none))))))))))))
theorem Zwk{A:Ar}{K:KT}{F:FT}{M:MT}{ms ks rs l:List AV}{wn fl at0 mo:Int}{dn:List AV}{ha:Bool}{ba:Int}{to:Bool}{dw:List Int}{up:List AV}{en:Int} :ZaH A tab Bn 49 K F M (.run 83 (.fy (.fy (.fy (.fy (.run 2 (.fy (.run 8 (.fy (.fy (.fy (.run 2 (.fy (.run 13 (.fy (.run 5 (.fy (.run 5 (.fy (.run 5 (.fy (.run 5 (.fy (.run 5 (.fy (.run 5 (.fy (.run 5 (.ty (.run 14 (.fn))))))))))))))))))))))))))))))) (ZCD ms ks rs l wn fl at0 mo dn ha ba to dw up en) []=Zot A K F ms ks rs l wn fl at0 mo dn ha ba to dw up en:=by kernel_rfl
def ZoX(ms ks rs l:List AV)(wn fl at0 mo:Int)(dn:List AV)(ha:Bool)(ba:Int)(to:Bool)(dw:List Int)(up:List AV)(en:Int):AFrame:={ fn:=49,N:=208,env:=[(0,AV.agg (Row.gen [.list (Row.big .str ms), .list (Row.big (.agg [.str, .int .i64]) ks), .list (Row.big (.agg [.str, .int .i64, .int .i64, .int .i64, .int .i64]) rs), .list (Row.big (.agg [.int .i64, .int .i64, .int .i64]) l), .int .i64 wn, .int .i64 fl])),(1,AV.agg (Row.gen [.int .i64 at0, .int .i64 mo, .list (Row.big (.agg [.int .i64, .int .i64]) dn), .bool ha, .int .i64 ba, .bool to, .list (.ints .i64 dw), .list (Row.big (.agg [.int .i64, .bool]) up)])),(2,AV.agg (Row.gen [.int .i64 8, .int .i64 en]))],todo:=[.code a49.code],defs:=[],rnd:=none,ret:=false,res:=[ARes.cell 6 true 8,ARes.tmp 7] }
def ZBL(ms ks rs l:List AV)(wn fl at0 mo:Int)(dn:List AV)(ha:Bool)(ba:Int)(to:Bool)(dw:List Int)(up:List AV)(en:Int):List AFrame:=[(ZoX ms ks rs l wn fl at0 mo dn ha ba to dw up en)]
theorem Zpf(ms ks rs l:List AV)(wn fl at0 mo:Int)(dn:List AV)(ha:Bool)(ba:Int)(to:Bool)(dw:List Int)(up:List AV)(en:Int):Zar tab 49 [AV.agg (Row.gen [.list (Row.big .str ms), .list (Row.big (.agg [.str, .int .i64]) ks), .list (Row.big (.agg [.str, .int .i64, .int .i64, .int .i64, .int .i64]) rs), .list (Row.big (.agg [.int .i64, .int .i64, .int .i64]) l), .int .i64 wn, .int .i64 fl]),AV.agg (Row.gen [.int .i64 at0, .int .i64 mo, .list (Row.big (.agg [.int .i64, .int .i64]) dn), .bool ha, .int .i64 ba, .bool to, .list (.ints .i64 dw), .list (Row.big (.agg [.int .i64, .bool]) up)]),AV.agg (Row.gen [.int .i64 8, .int .i64 en])]=some (ZoX ms ks rs l wn fl at0 mo dn ha ba to dw up en):=rfl
def Zlh(A:Ar)(K:KT)(F:FT)(ms ks rs l:List AV)(wn fl at0 mo:Int)(dn:List AV)(ha:Bool)(ba:Int)(to:Bool)(dw:List Int)(up:List AV)(en:Int):Prop:=rB [A.inR .i64 (A.sub (A.int (A.len dw)) 1),Nat.ble (0+A.lenA up) 4294967296,List.all [] fun x=>AV.bx x&&Nat.beq (Zae A x) 2,decide (List.length dw≤1000000),Nat.ble (0+A.lenA dn) 4294967296,List.all [] fun x=>AV.bx x&&Nat.beq (Zae A x) 2] (rB [!A.eq 8 3] (rB [!A.eq 8 5] (rB [!A.eq 8 0] (rB [!A.eq 8 1] (rB [!A.eq 8 2] (rB [!A.eq 8 3] (rB [!A.eq 8 4] (rB [!A.eq 8 5] (rB [!A.eq 8 6] (rB [!A.eq 8 7] (rB [A.eq 8 8] (bB (A.lt (A.int (A.lenA up)) fl) (rB [Nat.ble (A.lenA up+A.lenA [AV.agg (Row.gen [.int .i64 (A.int (A.lenA dn)), .bool ha])]) 4294967296,List.all [AV.agg (Row.gen [.int .i64 (A.int (A.lenA dn)), .bool ha])] fun x=>AV.bx x&&Nat.beq (Zae A x) 2] (F (AV.tup [AV.agg (Row.gen [AV.int .i64 at0,AV.int .i64 mo,AV.list (Row.big (.agg [.int .i64, .int .i64]) dn),AV.bool ha,AV.int .i64 ba,AV.bool to,AV.list (.ints .i64 dw),AV.list (Row.big (.agg [.int .i64, .bool]) (A.appA up [AV.agg (Row.gen [AV.int .i64 (A.int (A.lenA dn)),AV.bool ha])]))]),AV.int .i64 0]) (none))) (F (AV.tup [AV.agg (Row.gen [.int .i64 at0, .int .i64 mo, .list (Row.big (.agg [.int .i64, .int .i64]) dn), .bool ha, .int .i64 ba, .bool to, .list (.ints .i64 dw), .list (Row.big (.agg [.int .i64, .bool]) up)]),AV.int .i64 0]) (none))))))))))))))
theorem Zuw{A:Ar}{K:KT}{F:FT}{M:MT}{ms ks rs l:List AV}{wn fl at0 mo:Int}{dn:List AV}{ha:Bool}{ba:Int}{to:Bool}{dw:List Int}{up:List AV}{en:Int} :ZaH A tab Bn 49 K F M (.run 83 (.fy (.fy (.fy (.fy (.run 2 (.fy (.run 8 (.fy (.fy (.fy (.run 2 (.fy (.run 13 (.fy (.run 5 (.fy (.run 5 (.fy (.run 5 (.fy (.run 5 (.fy (.run 5 (.fy (.run 5 (.fy (.run 5 (.fy (.run 5 (.ty (.run 20 (.tf (.run 31 (.fn)) (.run 18 (.fn))))))))))))))))))))))))))))))))))) (ZBL ms ks rs l wn fl at0 mo dn ha ba to dw up en) []=Zlh A K F ms ks rs l wn fl at0 mo dn ha ba to dw up en:=by kernel_rfl
end Go.Proofs.YtkeoeooghhjibaaGreatDoor
