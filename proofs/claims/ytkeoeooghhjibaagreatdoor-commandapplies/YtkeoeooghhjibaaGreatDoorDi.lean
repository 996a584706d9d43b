/- Contracts as a list. No condition. -/
import Derived.Test.YtkeoeooghhjibaaGreatDoorPv
import Derived.KernelRfl
namespace Go.Proofs.YtkeoeooghhjibaaGreatDoor
variable {A:Ar}{K:KT}{F:FT}{M:MT}
def Zjk(rs:zA)(a b:Int)(xs:zI)(k:Int):Nat→Nat→Nat
 |0,i=>i
 |m+1,i=>if Zmw rs a b xs k i=true then i else Zjk rs a b xs k m (i+1)
def Zdm(rs:zA)(a b:Int)(xs:zI)(k:Int):Bool:=decide (Zjk rs a b xs k rs.length 0=rs.length)
def Zvg(rs:zA)(i:Nat):AV:=.eptr (.agg (.gen [.str (ZaA rs i), .int .i64 (Zaj rs i 1), .int .i64 (Zaj rs i 2), .int .i64 (Zaj rs i 3), .int .i64 (Zaj rs i 4)])) 0
def Zjl(rs:zA)(a b:Int)(xs:zI)(k:Int)(m i:Nat):AV:=if Zjk rs a b xs k m i=i+m then .val (.pointer none)else Zvg rs (Zjk rs a b xs k m i)
theorem ZpS(rs:zA)(a b:Int)(xs:zI)(k:Int)(m i:Nat):Zjl rs a b xs k (m+1) i=if Zmw rs a b xs k i=true then Zvg rs i else Zjl rs a b xs k m (i+1):=by
 unfold Zjl
 simp only[Zjk]
 split
 ·rw[if_neg (by omega)]
 ·rw[show i+(m+1)=i+1+m by omega]
theorem Zi5{C:Ctx}(hC:C.P=Tryz.prog)(ms ks rs:zA)(a b:Int)(xs:zI)(q:Int)(hg:Zbx rs b xs=true):∀m k:Nat,k+m=rs.length→vE C (Zb1 ms ks rs a b xs q rs.length k) (Zco 91 (Zjl rs a b xs q m k) none)
 |0,k,hk=>tgo hC Zvx Zki (by simp[ZgY,show ¬(k:Int)<rs.length by omega,Zjl,Zjk])
 |m+1,k,hk=>by
  have hlt:(k:Int)<rs.length:=by omega
  have hlt2:k<rs.length:=by omega
  have e0:((rs.getD k .top).cellAt 0).toS=ZaA rs k:=rfl
  have e1:((rs.getD k .top).cellAt 1).toI=Zaj rs k 1:=rfl
  have e2:((rs.getD k .top).cellAt 2).toI=Zaj rs k 2:=rfl
  have e3:((rs.getD k .top).cellAt 3).toI=Zaj rs k 3:=rfl
  have e4:((rs.getD k .top).cellAt 4).toI=Zaj rs k 4:=rfl
  have ih:=Zi5 hC ms ks rs a b xs q hg m (k+1) (by omega)
  refine tgo hC Zvx Zki ?_
  simp[-List.getD_eq_getElem?_getD,ZgY,e0,e1,e2,e3,e4,hlt,hlt2]
  obtain⟨V,hV⟩:∃V,V=Zjl rs a b xs q (m+1) k:=⟨_,rfl⟩
  rw[←hV]
  rw[ZpS]at hV
  simp only[Zmw,Zvg,decide_eq_true_eq]at hV
  have g:=ZoG hg hlt2
  clear e0 e1 e2 e3 e4 hg
  generalize ZaA rs k=nm at*
  generalize Zaj rs k 1=f1 at*
  generalize Zaj rs k 2=f2 at*
  generalize Zaj rs k 3=f3 at*
  generalize Zaj rs k 4=f4 at*
  generalize xs.getD f3.toNat 0=t at*
  have r3: -9223372036854775808≤(k:Int)+1∧(k:Int)+1≤9223372036854775807:=by omega
  have r1:f3≠ -1→(0≤f3∧f3.toNat<xs.length)∧(-9223372036854775808≤b-t∧b-t≤9223372036854775807):=by omega
  have ih':vE C (Zb1 ms ks rs a b xs q rs.length (k+1)) (Zco 91 (Zjl rs a b xs q m (k+1)) none):=ih
  clear hk hlt hlt2 g ih
  by_cases h1:f1=q<;>by_cases h2:f2= -1<;>by_cases h3:f2=a<;>by_cases h4:f3= -1<;>by_cases h5:t= -1<;>by_cases h6:b-t<f4<;>simp_all<;>(intro h7;omega)
theorem Zr1(ms ks rs:zA)(a b:Int)(xs:zI)(q:Int)(hg:Zbx rs b xs=true):Zan Tryz.prog 91 [.eptr (.agg (.gen [.list (.big .str ms), .list (.big (.agg [.str, .int .i64]) ks), .list (.big (.agg [.str, .int .i64, .int .i64, .int .i64, .int .i64]) rs), .int .i64 a, .int .i64 b, .list (.ints .i64 xs)])) 0, .int .i64 q] (Zjl rs a b xs q rs.length 0) none:=
 start (Zxf ms ks rs a b xs q) fun C hC=>tgo hC Zvx ZI0 (by
  have:=Zi5 hC ms ks rs a b xs q hg rs.length 0 (by omega)
  simpa[ZEX]using this)
def ZKs(c:Bool)(rs:zA)(a b:Int)(xs:zI)(q:Int):AV:=match c with |true=>.val (.pointer none) |false=>Zvg rs (Zjk rs a b xs q rs.length 0)
theorem ZAu{c:Bool}{rs:zA}{a b:Int}{xs:zI}{q:Int}(h:Zdm rs a b xs q=c):ZKs c rs a b xs q=Zjl rs a b xs q rs.length 0:=by
 subst h
 unfold ZKs Zjl Zdm
 by_cases h:Zjk rs a b xs q rs.length 0=rs.length
 ·rw[decide_eq_true h,if_pos (by omega)]
 ·rw[decide_eq_false h,if_neg (by omega)]
def k91b:Ctr:=⟨91,1,fun pa a=>match pa with
 |[]=>none
 |c::_=>(match a with
  |[.eptr (.agg (.gen [.list (.big .str _), .list (.big (.agg [.str, .int .i64]) _), .list (.big (.agg [.str, .int .i64, .int .i64, .int .i64, .int .i64]) rs), .int .i64 a, .int .i64 b, .list (.ints .i64 xs)])) 0, .int .i64 q]=>some (decide (Zbx rs b xs=true∧Zdm rs a b xs q=c),ZKs c rs a b xs q,none)
  |_=>none)⟩
theorem ZAw:k91b.OK Tryz.prog:=fun pa args r fr h=>by
 simp only[k91b]at h
 split at h
 ·cases h
 ·split at h
  ·simp only[zS,zP,decide_eq_true_eq]at h
   obtain⟨⟨h0,h1⟩,rfl,rfl⟩:=h
   rw[ZAu h1]
   exact Zr1 _ _ _ _ _ _ _ h0
  ·cases h
def Bc0:List Ctr:=[k91b]++Bb
theorem ZDD:ZaF Tryz.prog Bc0:=⟨ZAw,Zvx⟩
def Bc:List Ctr:=[]++Bc0
theorem ZED:ZaF Tryz.prog Bc:=ZDD
end Go.Proofs.YtkeoeooghhjibaaGreatDoor
namespace Go.Proofs.YtkeoeooghhjibaaGreatDoor
variable {A:Ar}{K:KT}{F:FT}{M:MT}
set_option maxRecDepth 100000
set_option linter.unusedVariables false
def ZvK(ms ks rs:zA)(a t:Int)(xs:zI)(c d e:Int):AFrame:=vF 123 24 [(0,AV.eptr (AV.agg (vx [.list (Row.big .str ms), .list (Row.big vsK ks), .list (Row.big vsR rs), .int .i64 a, .int .i64 t, .list (.ints .i64 xs)])) 0),(1,AV.agg (vx [.int .i64 c, .int .i64 d, .int .i64 e]))] [.code a123.code] [.tmp 4]
def ZIR(ms ks rs:zA)(a t:Int)(xs:zI)(c d e:Int):List AFrame:=[(ZvK ms ks rs a t xs c d e)]
theorem Zvb(ms ks rs:zA)(a t:Int)(xs:zI)(c d e:Int):Zam tab 123 [AV.eptr (AV.agg (Row.gen [.list (Row.big .str ms), .list (Row.big (.agg [.str, .int .i64]) ks), .list (Row.big (.agg [.str, .int .i64, .int .i64, .int .i64, .int .i64]) rs), .int .i64 a, .int .i64 t, .list (.ints .i64 xs)])) 0,AV.agg (Row.gen [.int .i64 c, .int .i64 d, .int .i64 e])]=some (ZvK ms ks rs a t xs c d e):=rfl
def ZsV(A:Ar)(K:KT)(F:FT)(ms ks rs:zA)(a t:Int)(xs:zI)(c d e:Int):Prop:=qB [decide (Zbx rs t xs=true∧Zdm rs a t xs c=true),Zab t d e] (F (AV.bool true) none) (qB [decide (Zbx rs t xs=true∧Zdm rs a t xs c=false),Zab t d e] (F (AV.bool false) none) (rB [!Zab t d e] (F (AV.bool false) none)))
theorem ZBQ{ms ks rs:zA}{a t:Int}{xs:zI}{c d e:Int} :Zaw A tab Bc 123 K F M (.run 6 (.alt [true,true] (.run 2 (.fn)) (.alt [true,false] (.run 2 (.fn)) (.fy (.run 2 (.fn)))))) (ZIR ms ks rs a t xs c d e) []=ZsV A K F ms ks rs a t xs c d e:=by kernel_rfl
end Go.Proofs.YtkeoeooghhjibaaGreatDoor
namespace Go.Proofs.YtkeoeooghhjibaaGreatDoor
variable {A:Ar}{K:KT}{F:FT}{M:MT}
def ZhL(rs:zA)(a t:Int)(xs:zI)(c d e:Int):Bool:=Zab t d e&&Zdm rs a t xs c
theorem Zry(ms ks rs:zA)(a t:Int)(xs:zI)(c d e:Int)(h:Zab t d e=false∨Zbx rs t xs=true):Zan Tryz.prog 123 [.eptr (.agg (.gen [.list (.big .str ms), .list (.big (.agg [.str, .int .i64]) ks), .list (.big (.agg [.str, .int .i64, .int .i64, .int .i64, .int .i64]) rs), .int .i64 a, .int .i64 t, .list (.ints .i64 xs)])) 0, .agg (.gen [.int .i64 c, .int .i64 d, .int .i64 e])] (.bool (ZhL rs a t xs c d e)) none:=
 start (Zvb ms ks rs a t xs c d e) fun C hC=>tgo hC ZED ZBQ (by
  unfold ZhL
  cases h1:Zab t d e
  ·simp[ZsV,h1]
  ·have hg:Zbx rs t xs=true:=by simpa[h1]using h
   cases h2:Zdm rs a t xs c<;>simp[ZsV,h1,h2,hg])
def k123:Ctr:=⟨123,0,fun _ a=>match a with |[.eptr (.agg (.gen [.list (.big .str _), .list (.big (.agg [.str, .int .i64]) _), .list (.big (.agg [.str, .int .i64, .int .i64, .int .i64, .int .i64]) rs), .int .i64 a, .int .i64 t, .list (.ints .i64 xs)])) 0, .agg (.gen [.int .i64 c, .int .i64 d, .int .i64 e])]=>some (decide (Zab t d e=false∨Zbx rs t xs=true), .bool (ZhL rs a t xs c d e),none) |_=>none⟩
theorem ZzM:k123.OK Tryz.prog:=fun pa args r fr h=>by
 simp only[k123]at h
 split at h
 ·simp only[zS,zP,decide_eq_true_eq]at h
  obtain⟨h0,rfl,rfl⟩:=h
  exact Zry _ _ _ _ _ _ _ _ _ h0
 ·cases h
def Bd:List Ctr:=[k123]++Bc
theorem ZI7:ZaF Tryz.prog Bd:=⟨ZzM,ZED⟩
end Go.Proofs.YtkeoeooghhjibaaGreatDoor
namespace Go.Proofs.YtkeoeooghhjibaaGreatDoor
variable {A:Ar}{K:KT}{F:FT}{M:MT}
theorem Ztc{e n:Int}{l:zA}(h:Zdc e n l=0):e=0∧0<l.length∧l.length≤12∧∀i<l.length,Zji n l i=0:=by
 unfold Zdc ZfV at h
 split at h
 ·rename_i hh
  have h0:=firstE_zero.1 hh
  simp only[List.mem_cons,List.not_mem_nil,or_false,forall_eq_or_imp,forall_eq]at h0
  obtain⟨h1,h2,h3⟩:=h0
  have h2:=ZaE h2 (by decide)
  have h3:=ZaE h3 (by decide)
  simp only[decide_eq_true_eq]at h2 h3
  refine⟨h1,by omega,by omega,fun i hi=>?_⟩
  have key:∀(m k:Nat),k+m=l.length→pE (Zgx (Zji n l) m k)=0→∀i,k≤i→i<l.length→Zji n l i=0:=by
   intro m
   induction m with
   |zero=>intro k hk _ i hi1 hi2;omega
   |succ m ih=>
    intro k hk hs i hi1 hi2
    rw[Zgx]at hs
    split at hs
    ·rename_i hz
     by_cases hik:i=k
     ·rw[hik];exact hz
     ·exact ih (k+1) (by omega) hs i (by omega) hi2
    ·rename_i hz;exact absurd hs hz
  exact key l.length 0 (by omega) h i (by omega) hi
 ·rename_i hh;exact absurd h hh
theorem ZuC{n:Int}{l:zA}{i:Nat}(h:Zji n l i=0):(0≤Zaj l i 0∧Zaj l i 0<n)∧(0≤Zaj l i 1∧Zaj l i 1≤1000000000000)∧(0≤Zaj l i 2∧Zaj l i 2≤1000000000000)∧Zaj l i 1≤Zaj l i 2:=by
 unfold Zji Zpf at h
 have h0:=firstE_zero.1 h
 simp only[List.mem_cons,List.not_mem_nil,or_false,forall_eq_or_imp,forall_eq]at h0
 obtain⟨h1,h2,h3⟩:=h0
 have h1:=within_iff.1 (ZaE h1 (by decide))
 have h2:=ZaE h2 (by decide)
 have h3:=ZaE h3 (by decide)
 simp only[Bool.and_eq_true,within_iff,decide_eq_true_eq]at h2 h3
 omega
structure OkF (ms ks rs l:zA):Prop where
 model:ZaN ms ks rs=0
 ks1:1≤ks.length∧ks.length≤8
 rs1:rs.length≤10
 l1:0<l.length∧l.length≤12
 act:∀i<l.length,(0≤Zaj l i 0∧Zaj l i 0<ks.length)∧(0≤Zaj l i 1∧Zaj l i 1≤1000000000000)∧(0≤Zaj l i 2∧Zaj l i 2≤1000000000000)∧Zaj l i 1≤Zaj l i 2
 rule:∀i<rs.length,(0≤Zaj rs i 1∧Zaj rs i 1<ks.length)∧(-1≤Zaj rs i 3∧Zaj rs i 3<ks.length)∧(1≤Zaj rs i 4∧Zaj rs i 4≤1000000)
 name:∀i<rs.length,ZaZ (ZaA rs i)=true
theorem okF{ms ks rs l:zA}(h:Zso ms ks rs l=0):OkF ms ks rs l:=by
 obtain⟨h1,h2,h3,h4⟩:=Ztc h
 obtain⟨g1,g2,g3,_,_,g6⟩:=ZqD h1
 exact⟨h1,g2,g3,⟨h2,h3⟩,fun i hi=>ZuC (h4 i hi),fun i hi=>⟨(Zh9 (g6 i hi).2).1,(Zh9 (g6 i hi).2).2.2.1,(Zh9 (g6 i hi).2).2.2.2.1⟩,fun i hi=>(g6 i hi).1⟩
def Be:List Ctr:=Bd
theorem ZJo:ZaF Tryz.prog Be:=ZI7
end Go.Proofs.YtkeoeooghhjibaaGreatDoor
namespace Go.Proofs.YtkeoeooghhjibaaGreatDoor
variable {A:Ar}{K:KT}{F:FT}{M:MT}
structure OkT (ks:zA) (t:Int) (xs:zI):Prop where
 len:xs.length=ks.length
 all:∀x∈xs, -1≤x∧x≤t
 lo:0≤t
 hi:t≤1000000000000
theorem OkT.at{ks:zA}{t:Int}{xs:zI}(h:OkT ks t xs){k:Nat}(hk:k<xs.length): -1≤xs.getD k 0∧xs.getD k 0≤t:=by
 refine h.all _ ?_
 rw[List.getD_eq_getElem?_getD,List.getElem?_eq_getElem hk];exact List.getElem_mem hk
theorem OkT.set{ks:zA}{t t':Int}{xs:zI}(h:OkT ks t xs)(h1:t≤t')(h2:t'≤1000000000000)(k:Nat):OkT ks t' (xs.set k t'):=by
 refine⟨by simpa using h.len,fun x hx=>?_,by have:=h.lo;omega,h2⟩
 rcases List.mem_or_eq_of_mem_set hx with hx |rfl
 ·have:=h.all x hx;omega
 ·have:=h.lo;omega
theorem OkT.forb{ms ks rs l:zA}(hf:OkF ms ks rs l){t t':Int}{xs:zI}(h:OkT ks t xs)(h1:t≤t')(h2:t'≤1000000000000):Zbx rs t' xs=true:=by
 simp only[Zbx,Bool.and_eq_true,List.all_eq_true,decide_eq_true_eq,List.mem_range]
 refine⟨⟨fun i hi=>?_,fun x hx=>?_⟩,by have:=h.lo;omega,h2,by have:=hf.rs1;omega⟩
 ·have:=(hf.rule i hi).2.1;have:=h.len;omega
 ·have:=h.all x hx;omega
section
variable {C:Ctx}(hC:C.P=Tryz.prog)(ms ks rs l:zA)(hf:OkF ms ks rs l)
include hC hf
end
theorem ZOQ{ms ks rs l:zA}(_:OkF ms ks rs l):OkT ks 0 (List.replicate ks.length (-1)):=⟨by simp,fun x hx=>by rw[List.eq_of_mem_replicate hx];omega,by omega,by omega⟩
def Bf:List Ctr:=Be
theorem ZIr:ZaF Tryz.prog Bf:=ZJo
end Go.Proofs.YtkeoeooghhjibaaGreatDoor
namespace Go.Proofs.YtkeoeooghhjibaaGreatDoor
variable {A:Ar}{K:KT}{F:FT}{M:MT}
theorem Zl1{rs:zA}{a t:Int}{xs:zI}{c:Int} :∀(m i:Nat),Zjk rs a t xs c m i=i+m↔∀j,i≤j→j<i+m→Zmw rs a t xs c j=false
 |0,i=>⟨fun _ j h1 h2=>by omega,fun _=>rfl⟩
 |m+1,i=>by
  unfold Zjk
  have ih:=Zl1 (rs:=rs) (a:=a) (t:=t) (xs:=xs) (c:=c) m (i+1)
  constructor
  ·intro h j h1 h2
   split at h
   ·omega
   ·rename_i hb
    by_cases hj:j=i
    ·subst hj;simpa using hb
    ·exact ih.1 (by omega) j (by omega) (by omega)
  ·intro h
   rw[if_neg (by rw[h i (by omega) (by omega)];simp)]
   have:=ih.2 fun j h1 h2=>h j (by omega) (by omega)
   omega
theorem ZpC{rs:zA}{a t:Int}{xs:zI}{c:Int} :Zdm rs a t xs c=true↔∀i<rs.length,Zmw rs a t xs c i=false:=by
 unfold Zdm
 rw[decide_eq_true_eq]
 have:=Zl1 (rs:=rs) (a:=a) (t:=t) (xs:=xs) (c:=c) rs.length 0
 rw[Nat.zero_add]at this
 rw[this]
 exact⟨fun h i hi=>h i (Nat.zero_le _) hi,fun h j _ hj=>h j hj⟩
theorem Zmg{rs:zA}{a t:Int}{xs:zI}{c:Int}(hn:∀i<rs.length,ZaA rs i≠[]):∀(m i:Nat),i+m=rs.length→(Ze3 rs a t xs c m i=[]↔∀j,i≤j→j<rs.length→Zmw rs a t xs c j=false)
 |0,i,h=>⟨fun _ j h1 h2=>by omega,fun _=>rfl⟩
 |m+1,i,h=>by
  unfold Ze3
  have ih:=Zmg (a:=a) (t:=t) (xs:=xs) (c:=c) hn m (i+1) (by omega)
  constructor
  ·intro hh j h1 h2
   split at hh
   ·exact absurd hh (hn i (by omega))
   ·rename_i hb
    by_cases hj:j=i
    ·subst hj;simpa using hb
    ·exact ih.1 hh j (by omega) h2
  ·intro hh
   rw[if_neg (by rw[hh i (by omega) (by omega)];simp)]
   exact ih.2 fun j h1 h2=>hh j (by omega) h2
theorem ZjX{rs:zA}{a t:Int}{xs:zI}{c:Int}(hn:∀i<rs.length,ZaA rs i≠[]):Ze3 rs a t xs c rs.length 0=[]↔Zdm rs a t xs c=true:=by
 rw[Zmg hn rs.length 0 (by omega),ZpC]
 exact⟨fun h i hi=>h i (Nat.zero_le _) hi,fun h j _ hj=>h j hj⟩
end Go.Proofs.YtkeoeooghhjibaaGreatDoor
namespace Go.Proofs.YtkeoeooghhjibaaGreatDoor
variable {A:Ar}{K:KT}{F:FT}{M:MT}
def ZNJ(rs:zA)(b:Int)(xs:zI)(d e:Int):Bool:=Zbx rs b xs&&((List.range rs.length).all fun i=>decide (1≤Zaj rs i 4∧Zaj rs i 4≤1000000∧ZaA rs i≠[]))&&decide (0≤d∧d≤1000000000000∧e≤1000000000000)
section
variable {C:Ctx}(hC:C.P=Tryz.prog)(ms ks rs:zA)(a b:Int)(xs:zI)(c d e:Int)(hg:ZNJ rs b xs d e=true)
include hC hg
end
def Bg:List Ctr:=Bf
theorem ZKg:ZaF Tryz.prog Bg:=ZIr
end Go.Proofs.YtkeoeooghhjibaaGreatDoor
namespace Go.Proofs.YtkeoeooghhjibaaGreatDoor
variable {A:Ar}{K:KT}{F:FT}{M:MT}
def tfG(ks rs l:zA)(b:Int)(xs:zI):Bool:=Zbx rs b xs&&((List.range rs.length).all fun i=>decide (1≤Zaj rs i 4∧Zaj rs i 4≤1000000∧ZaA rs i≠[]))&&((List.range l.length).all fun i=>decide ((0≤Zaj l i 0∧Zaj l i 0<ks.length)∧(0≤Zaj l i 1∧Zaj l i 1≤1000000000000)∧Zaj l i 2≤1000000000000))&&decide (xs.length=ks.length∧xs.length≤1000000∧l.length≤1000000)
structure OkX (ks rs l:zA) (b:Int) (xs:zI):Prop where
 forb:Zbx rs b xs=true
 rule:∀i<rs.length,1≤Zaj rs i 4∧Zaj rs i 4≤1000000∧ZaA rs i≠[]
 act:∀i<l.length,(0≤Zaj l i 0∧Zaj l i 0<ks.length)∧(0≤Zaj l i 1∧Zaj l i 1≤1000000000000)∧Zaj l i 2≤1000000000000
 len:xs.length=ks.length∧xs.length≤1000000∧l.length≤1000000
theorem tfG_iff{ks rs l:zA}{b:Int}{xs:zI} :tfG ks rs l b xs=true↔OkX ks rs l b xs:=by
 simp only[tfG,Bool.and_eq_true,List.all_eq_true,decide_eq_true_eq,List.mem_range]
 exact⟨fun h=>⟨h.1.1.1,h.1.1.2,h.1.2,h.2⟩,fun h=>⟨⟨⟨h.forb,h.rule⟩,h.act⟩,h.len⟩⟩
theorem OkX.next{ks rs l:zA}{b t:Int}{xs:zI}(h:OkX ks rs l b xs)(h1:b≤t)(h2:t≤1000000000000)(k:Nat):OkX ks rs l t (xs.set k t):=by
 refine⟨?_,h.rule,h.act,by simpa using h.len⟩
 have hf:=h.forb
 simp only[Zbx,Bool.and_eq_true,List.all_eq_true,decide_eq_true_eq,List.mem_range]at hf⊢
 refine⟨⟨fun i hi=>by simpa using hf.1.1 i hi,fun x hx=>?_⟩,by omega,h2,hf.2.2.2⟩
 rcases List.mem_or_eq_of_mem_set hx with hx |rfl
 ·have:=hf.1.2 x hx;omega
 ·omega
section
variable {C:Ctx}(hC:C.P=Tryz.prog)(ms ks rs l:zA)
include hC
end
def Bh:List Ctr:=Bg
theorem ZJa:ZaF Tryz.prog Bh:=ZKg
end Go.Proofs.YtkeoeooghhjibaaGreatDoor
namespace Go.Proofs.YtkeoeooghhjibaaGreatDoor
variable {A:Ar}{K:KT}{F:FT}{M:MT}
theorem Zm5{s:List UInt8}(h:ZaZ s=true):s≠[]:=fun e=>by subst e;revert h;decide
theorem OkF.tf{ms ks rs l:zA}(hf:OkF ms ks rs l):tfG ks rs l 0 (List.replicate ks.length (-1))=true:=by
 have hT:=ZOQ hf
 refine tfG_iff.2 ⟨hT.forb (ms:=ms) (l:=l) hf (Int.le_refl _) (by omega),fun i hi=>?_,fun i hi=>?_,?_⟩
 ·have:=(hf.rule i hi).2.2
  exact⟨this.1,this.2,Zm5 (hf.name i hi)⟩
 ·have:=hf.act i hi;omega
 ·have:=hf.ks1;have:=hf.l1;simp;omega
def Bi:List Ctr:=Bh
theorem Zjj:ZaF Tryz.prog Bi:=ZJa
end Go.Proofs.YtkeoeooghhjibaaGreatDoor
namespace Go.Proofs.YtkeoeooghhjibaaGreatDoor
variable {A:Ar}{K:KT}{F:FT}{M:MT}
set_option maxRecDepth 100000
set_option linter.unusedVariables false
def ZwQ(xs:zI):AFrame:=vF 140 8 [vL 0 xs] [.code a140.code] [.tmp 2]
def ZIo(xs:zI):List AFrame:=[(ZwQ xs)]
theorem ZtH(xs:zI):Zam tab 140 [AV.list (.ints .i64 xs)]=some (ZwQ xs):=rfl
def Zwt(A:Ar)(K:KT)(F:FT)(xs:zI):Prop:=rB [Nat.blt 0 (A.len xs)] (rB [Nat.ble (0+A.len xs) 4294967296,List.all [] fun x=>AV.bx x&&Nat.beq (Zac A x) 1] (F (AV.row 0 0) (some { e:=3,sz:=1,r:=.ints .i64 xs })))
theorem ZEL{xs:zI} :Zaw A tab Bi 140 K F M (.run 10 (.fy (.run 9 (.fn)))) (ZIo xs) []=Zwt A K F xs:=by kernel_rfl
def ZsP(cap:Nat):AFrame:=vF 140 8 [(0,AV.val (Go.Value.slice none 0 cap))] [.code a140.code] [.tmp 2]
def ZER(cap:Nat):List AFrame:=[(ZsP cap)]
theorem ZsU(cap:Nat):Zam tab 140 [AV.val (Go.Value.slice none 0 cap)]=some (ZsP cap):=rfl
def Zr6(A:Ar)(K:KT)(F:FT)(cap:Nat):Prop:=F (AV.nils) none
theorem ZAq{cap:Nat} :Zaw A tab Bi 140 K F M (.run 10 (.ty (.run 5 (.fn)))) (ZER cap) []=Zr6 A K F cap:=by kernel_rfl
def Ztd(ad:Go.Addr)(cap:Nat):AFrame:=vF 140 8 [(0,AV.val (Go.Value.slice (some ad) 0 cap))] [.code a140.code] [.tmp 2]
def ZFk(ad:Go.Addr)(cap:Nat):List AFrame:=[(Ztd ad cap)]
theorem Zs2(ad:Go.Addr)(cap:Nat):Zam tab 140 [AV.val (Go.Value.slice (some ad) 0 cap)]=some (Ztd ad cap):=rfl
def Zq1(A:Ar)(K:KT)(F:FT)(ad:Go.Addr)(cap:Nat):Prop:=rB [List.all [] fun x=>AV.bx x&&Nat.beq (Zac A x) 1] (F (AV.row 0 0) (some { e:=3,sz:=1,r:=Row.gen [] }))
theorem Zyl{ad:Go.Addr}{cap:Nat} :Zaw A tab Bi 140 K F M (.run 10 (.fy (.run 9 (.fn)))) (ZFk ad cap) []=Zq1 A K F ad cap:=by kernel_rfl
def ZwL(xs:zA):AFrame:=vF 153 8 [(0,vl vsD xs)] [.code a153.code] [.tmp 2]
def ZIC(xs:zA):List AFrame:=[(ZwL xs)]
theorem ZtC(xs:zA):Zam tab 153 [AV.list (Row.big (.agg [.int .i64, .int .i64]) xs)]=some (ZwL xs):=rfl
def Zv6(A:Ar)(K:KT)(F:FT)(xs:zA):Prop:=rB [Nat.blt 0 (A.lenA xs)] (rB [Nat.ble (0+A.lenA xs) 4294967296,List.all [] fun x=>AV.bx x&&Nat.beq (Zac A x) 2] (F (AV.row 0 0) (some { e:=78,sz:=2,r:=Row.big (.agg [.int .i64, .int .i64]) xs })))
theorem ZE1{xs:zA} :Zaw A tab Bi 153 K F M (.run 10 (.fy (.run 9 (.fn)))) (ZIC xs) []=Zv6 A K F xs:=by kernel_rfl
def ZsR(cap:Nat):AFrame:=vF 153 8 [(0,AV.val (Go.Value.slice none 0 cap))] [.code a153.code] [.tmp 2]
def ZEd(cap:Nat):List AFrame:=[(ZsR cap)]
theorem ZsD(cap:Nat):Zam tab 153 [AV.val (Go.Value.slice none 0 cap)]=some (ZsR cap):=rfl
def ZrO(A:Ar)(K:KT)(F:FT)(cap:Nat):Prop:=F (AV.nils) none
theorem Zyy{cap:Nat} :Zaw A tab Bi 153 K F M (.run 10 (.ty (.run 5 (.fn)))) (ZEd cap) []=ZrO A K F cap:=by kernel_rfl
def Zsj(ad:Go.Addr)(cap:Nat):AFrame:=vF 153 8 [(0,AV.val (Go.Value.slice (some ad) 0 cap))] [.code a153.code] [.tmp 2]
def ZDG(ad:Go.Addr)(cap:Nat):List AFrame:=[(Zsj ad cap)]
theorem ZsN(ad:Go.Addr)(cap:Nat):Zam tab 153 [AV.val (Go.Value.slice (some ad) 0 cap)]=some (Zsj ad cap):=rfl
def Zsb(A:Ar)(K:KT)(F:FT)(ad:Go.Addr)(cap:Nat):Prop:=rB [List.all [] fun x=>AV.bx x&&Nat.beq (Zac A x) 2] (F (AV.row 0 0) (some { e:=78,sz:=2,r:=Row.gen [] }))
theorem ZyN{ad:Go.Addr}{cap:Nat} :Zaw A tab Bi 153 K F M (.run 10 (.fy (.run 9 (.fn)))) (ZDG ad cap) []=Zsb A K F ad cap:=by kernel_rfl
def ZvZ(xs:zA):AFrame:=vF 154 8 [(0,vl vsU xs)] [.code a154.code] [.tmp 2]
def ZKj(xs:zA):List AFrame:=[(ZvZ xs)]
theorem ZuG(xs:zA):Zam tab 154 [AV.list (Row.big (.agg [.int .i64, .bool]) xs)]=some (ZvZ xs):=rfl
def ZwB(A:Ar)(K:KT)(F:FT)(xs:zA):Prop:=rB [Nat.blt 0 (A.lenA xs)] (rB [Nat.ble (0+A.lenA xs) 4294967296,List.all [] fun x=>AV.bx x&&Nat.beq (Zac A x) 2] (F (AV.row 0 0) (some { e:=129,sz:=2,r:=Row.big (.agg [.int .i64, .bool]) xs })))
theorem ZCq{xs:zA} :Zaw A tab Bi 154 K F M (.run 10 (.fy (.run 9 (.fn)))) (ZKj xs) []=ZwB A K F xs:=by kernel_rfl
def Zs3(cap:Nat):AFrame:=vF 154 8 [(0,AV.val (Go.Value.slice none 0 cap))] [.code a154.code] [.tmp 2]
def ZES(cap:Nat):List AFrame:=[(Zs3 cap)]
theorem Zs8(cap:Nat):Zam tab 154 [AV.val (Go.Value.slice none 0 cap)]=some (Zs3 cap):=rfl
def ZrN(A:Ar)(K:KT)(F:FT)(cap:Nat):Prop:=F (AV.nils) none
theorem ZA0{cap:Nat} :Zaw A tab Bi 154 K F M (.run 10 (.ty (.run 5 (.fn)))) (ZES cap) []=ZrN A K F cap:=by kernel_rfl
def Ztj(ad:Go.Addr)(cap:Nat):AFrame:=vF 154 8 [(0,AV.val (Go.Value.slice (some ad) 0 cap))] [.code a154.code] [.tmp 2]
def ZGA(ad:Go.Addr)(cap:Nat):List AFrame:=[(Ztj ad cap)]
theorem Zto(ad:Go.Addr)(cap:Nat):Zam tab 154 [AV.val (Go.Value.slice (some ad) 0 cap)]=some (Ztj ad cap):=rfl
def Zsl(A:Ar)(K:KT)(F:FT)(ad:Go.Addr)(cap:Nat):Prop:=rB [List.all [] fun x=>AV.bx x&&Nat.beq (Zac A x) 2] (F (AV.row 0 0) (some { e:=129,sz:=2,r:=Row.gen [] }))
theorem ZAy{ad:Go.Addr}{cap:Nat} :Zaw A tab Bi 154 K F M (.run 10 (.fy (.run 9 (.fn)))) (ZGA ad cap) []=Zsl A K F ad cap:=by kernel_rfl
end Go.Proofs.YtkeoeooghhjibaaGreatDoor
namespace Go.Proofs.YtkeoeooghhjibaaGreatDoor
variable {A:Ar}{K:KT}{F:FT}{M:MT}
theorem Znl(xs:zI)(h:xs.length≤1000000):Zan Tryz.prog 140 [.list (.ints .i64 xs)] (.row 0 0) (some ⟨3,1, .ints .i64 xs⟩):=by
 by_cases h0:xs=[]
 ·subst h0
  refine Zf8 rfl fun ad cap=>?_
  cases ad with
  |none=>exact Zld (r0:=.nils) (start (ZsU cap) fun C hC=>tgo hC Zjj ZAq (by simp[Zr6])) rfl rfl (by omega)
  |some ad=>exact Zk7 (r:=.gen []) (start (Zs2 ad cap) fun C hC=>tgo hC Zjj Zyl (by simp[Zq1])) (by omega) rfl
 ·have:=List.length_pos_iff.2 h0
  exact start (ZtH xs) fun C hC=>tgo hC Zjj ZEL (by simp[Zwt];omega)
theorem Zm6(xs:zA)(h:xs.length≤1000000):Zan Tryz.prog 153 [.list (.big (.agg [.int .i64, .int .i64]) xs)] (.row 0 0) (some ⟨78,2, .big (.agg [.int .i64, .int .i64]) xs⟩):=by
 by_cases h0:xs=[]
 ·subst h0
  refine Zf8 rfl fun ad cap=>?_
  cases ad with
  |none=>exact Zld (r0:=.nils) (start (ZsD cap) fun C hC=>tgo hC Zjj Zyy (by simp[ZrO])) rfl rfl (by omega)
  |some ad=>exact Zk7 (r:=.gen []) (start (ZsN ad cap) fun C hC=>tgo hC Zjj ZyN (by simp[Zsb])) (by omega) rfl
 ·have:=List.length_pos_iff.2 h0
  exact start (ZtC xs) fun C hC=>tgo hC Zjj ZE1 (by simp[Zv6];omega)
theorem ZnD(xs:zA)(h:xs.length≤1000000):Zan Tryz.prog 154 [.list (.big (.agg [.int .i64, .bool]) xs)] (.row 0 0) (some ⟨129,2, .big (.agg [.int .i64, .bool]) xs⟩):=by
 by_cases h0:xs=[]
 ·subst h0
  refine Zf8 rfl fun ad cap=>?_
  cases ad with
  |none=>exact Zld (r0:=.nils) (start (Zs8 cap) fun C hC=>tgo hC Zjj ZA0 (by simp[ZrN])) rfl rfl (by omega)
  |some ad=>exact Zk7 (r:=.gen []) (start (Zto ad cap) fun C hC=>tgo hC Zjj ZAy (by simp[Zsl])) (by omega) rfl
 ·have:=List.length_pos_iff.2 h0
  exact start (ZuG xs) fun C hC=>tgo hC Zjj ZCq (by simp[ZwB];omega)
def k140:Ctr:=⟨140,0,fun _ a=>match a with |[.list (.ints .i64 xs)]=>some (decide (xs.length≤1000000), .row 0 0,some ⟨3,1, .ints .i64 xs⟩) |_=>none⟩
theorem ZyB:k140.OK Tryz.prog:=fun pa args r fr h=>by
 simp only[k140]at h
 split at h
 ·simp only[zS,zP,decide_eq_true_eq]at h
  obtain⟨h0,rfl,rfl⟩:=h
  exact Znl _ h0
 ·cases h
def k153:Ctr:=⟨153,0,fun _ a=>match a with |[.list (.big (.agg [.int .i64, .int .i64]) xs)]=>some (decide (xs.length≤1000000), .row 0 0,some ⟨78,2, .big (.agg [.int .i64, .int .i64]) xs⟩) |_=>none⟩
theorem Zyt:k153.OK Tryz.prog:=fun pa args r fr h=>by
 simp only[k153]at h
 split at h
 ·simp only[zS,zP,decide_eq_true_eq]at h
  obtain⟨h0,rfl,rfl⟩:=h
  exact Zm6 _ h0
 ·cases h
def k154:Ctr:=⟨154,0,fun _ a=>match a with |[.list (.big (.agg [.int .i64, .bool]) xs)]=>some (decide (xs.length≤1000000), .row 0 0,some ⟨129,2, .big (.agg [.int .i64, .bool]) xs⟩) |_=>none⟩
theorem Zzj:k154.OK Tryz.prog:=fun pa args r fr h=>by
 simp only[k154]at h
 split at h
 ·simp only[zS,zP,decide_eq_true_eq]at h
  obtain⟨h0,rfl,rfl⟩:=h
  exact ZnD _ h0
 ·cases h
def Bj:List Ctr:=[k140,k153,k154]++Bi
theorem ZuI:ZaF Tryz.prog Bj:=⟨ZyB,⟨Zyt,⟨Zzj,Zjj⟩⟩⟩
end Go.Proofs.YtkeoeooghhjibaaGreatDoor
namespace Go.Proofs.YtkeoeooghhjibaaGreatDoor
variable {A:Ar}{K:KT}{F:FT}{M:MT}
set_option maxRecDepth 100000
set_option linter.unusedVariables false
def ZEY(ms ks rs l:zA)(wn fl:Int)(dn:zA):AFrame:=vF 85 32 [(0,vU ms ks rs l wn fl),(1,vl vsD dn)] [.code a85.code] [ARes.cell 4 true 3]
def ZOH(ms ks rs l:zA)(wn fl:Int)(dn:zA):List AFrame:=[(ZEY ms ks rs l wn fl dn)]
theorem Zyu(ms ks rs l:zA)(wn fl:Int)(dn:zA):Zam tab 85 [vU ms ks rs l wn fl,AV.list (Row.big (.agg [.int .i64, .int .i64]) dn)]=some (ZEY ms ks rs l wn fl dn):=rfl
def ZiU(ms ks rs l:zA)(wn fl:Int)(dn:zA)(l0:zI)(n1 n2 n3:Int):List AFrame:=[vF 85 32 [(1,vl vsD dn),vP 2 85003,vP 4 85005,vP 5 85006,vI 6 n1] (vC ZuK ZyS) [ARes.cell 4 true 3]]
def Zgb(ms ks rs l:zA)(wn fl:Int)(dn:zA)(l0:zI)(n1 n2 n3:Int):Zad:=[vH 85003 29 6 (vx [vU ms ks rs l wn fl]),vH 85005 76 3 (vx [AV.agg (vx [vi 0,vi 0,AV.nils])]),vH 85006 76 3 (vx [AV.agg (vx [vi n2,vi n3,vz l0])])]
abbrev Zjx(ms ks rs l:zA)(wn fl:Int)(dn:zA)(l0:zI)(n1 n2 n3:Int):List AFrame×Zad:=(ZiU ms ks rs l wn fl dn l0 n1 n2 n3,Zgb ms ks rs l wn fl dn l0 n1 n2 n3)
def ZDu(A:Ar)(K:KT)(F:FT)(ms ks rs l:zA)(wn fl:Int)(dn:zA):Prop:=rB [decide (List.length ks≤1000000)] (K (Zjx ms ks rs l wn fl dn (List.replicate (List.length ks) (-1)) 0 0 0))
theorem ZIj{ms ks rs l:zA}{wn fl:Int}{dn:zA} :Zaw A tab Bj 85 K F M (.run 21 (.hd)) (ZOH ms ks rs l wn fl dn) []=ZDu A K F ms ks rs l wn fl dn:=by kernel_rfl
def ZgM(A:Ar)(K:KT)(F:FT)(ms ks rs l:zA)(wn fl:Int)(dn:zA)(l0:zI)(n1 n2 n3:Int):Prop:=let u0:=A.nat n1;bB (A.lt n1 (A.int (A.lenA dn))) (rB [A.inR .i64 (A.add n1 1),decide (List.length l0≤1000000∧0≤AV.toI (AV.cellAt (A.nthA l u0) 0)∧AV.toI (AV.cellAt (A.nthA l u0) 0)< ↑(List.length ks)∧AV.toI (AV.cellAt (A.nthA l u0) 0)< ↑(List.length l0)),Zag (Zag (A.le 0 n1) (Nat.blt u0 (A.lenA dn))) true,Zag (Zag (A.le 0 n1) (Nat.blt u0 (A.lenA l))) true] (K (Zjx ms ks rs l wn fl dn (List.set l0 (Int.toNat ((A.nthA l u0).cellAt 0).toI) ((A.nthA dn u0).cellAt 1).toI) (A.add n1 1) (exM ks n2 ((A.nthA l u0).cellAt 0).toI) ((A.nthA dn u0).cellAt 1).toI))) (F (AV.agg (Row.gen [.int .i64 n2, .int .i64 n3, .list (.ints .i64 l0)])) none)
theorem Zks{ms ks rs l:zA}{wn fl:Int}{dn:zA}{l0:zI}{n1 n2 n3:Int} :vT A tab Bj 85 K F M (.run 9 (.tf (.run 12 (.hd)) (.run 7 (.fn)))) (Zjx ms ks rs l wn fl dn l0 n1 n2 n3)=ZgM A K F ms ks rs l wn fl dn l0 n1 n2 n3:=by kernel_rfl
end Go.Proofs.YtkeoeooghhjibaaGreatDoor
namespace Go.Proofs.YtkeoeooghhjibaaGreatDoor
variable {A:Ar}{K:KT}{F:FT}{M:MT}
def ZmZ(ks l:zA):Nat→Nat→Int→Int
 |0,_,a=>a
 |m+1,i,a=>ZmZ ks l m (i+1) (exM ks a (Zaj l i 0))
def ZBy(dn:zA):Nat→Nat→Int→Int
 |0,_,t=>t
 |m+1,i,_=>ZBy dn m (i+1) (Zaj dn i 1)
def ZhK(l dn:zA):Nat→Nat→zI→zI
 |0,_,xs=>xs
 |m+1,i,xs=>ZhK l dn m (i+1) (xs.set (Zaj l i 0).toNat (Zaj dn i 1))
def Zu7(ks l:zA):Bool:=((List.range l.length).all fun i=>decide (0≤Zaj l i 0∧Zaj l i 0<ks.length))&&decide (l.length≤1000000∧ks.length≤1000000)
theorem actG_iff{ks l:zA} :Zu7 ks l=true↔(∀i<l.length,0≤Zaj l i 0∧Zaj l i 0<ks.length)∧l.length≤1000000∧ks.length≤1000000:=by
 simp only[Zu7,Bool.and_eq_true,List.all_eq_true,decide_eq_true_eq,List.mem_range]
theorem Zpd{C:Ctx}(hC:C.P=Tryz.prog)(ms ks rs l:zA)(wn fl:Int)(dn:zA)(hd:dn.length≤l.length)(hg:Zu7 ks l=true):∀(m i:Nat) (xs:zI) (a t:Int),i+m=dn.length→xs.length=ks.length→vE C (Zjx ms ks rs l wn fl dn xs i a t) (Zco 85 (.agg (.gen [.int .i64 (ZmZ ks l m i a), .int .i64 (ZBy dn m i t), .list (.ints .i64 (ZhK l dn m i xs))])) none)
 |0,i,xs,a,t,hk,hx=>tgo hC ZuI Zks (by simp[ZgM,show ¬(i:Int)<dn.length by omega,ZmZ,ZBy,ZhK])
 |m+1,i,xs,a,t,hk,hx=>by
  obtain⟨g1,g2,g3⟩:=actG_iff.1 hg
  have ih:=Zpd hC ms ks rs l wn fl dn hd hg m (i+1) (xs.set (Zaj l i 0).toNat (Zaj dn i 1)) (exM ks a (Zaj l i 0)) (Zaj dn i 1) (by omega) (by simpa using hx)
  have h1:=g1 i (by omega)
  have e0:((l.getD i .top).cellAt 0).toI=Zaj l i 0:=rfl
  have e1:((dn.getD i .top).cellAt 1).toI=Zaj dn i 1:=rfl
  refine tgo hC ZuI Zks ?_
  simp[-List.getD_eq_getElem?_getD,ZgM,show(i:Int)<dn.length by omega,show i<dn.length by omega,show i<l.length by omega,e0,e1,h1,hx,ZmZ,ZBy,ZhK]
  exact⟨by omega,by simpa using ih⟩
theorem Zvd(ms ks rs l:zA)(wn fl:Int)(dn:zA)(h:dn.length≤l.length∧Zu7 ks l=true):Zan Tryz.prog 85 [vU ms ks rs l wn fl, .list (.big (.agg [.int .i64, .int .i64]) dn)] (.agg (.gen [.int .i64 (ZmZ ks l dn.length 0 0), .int .i64 (ZBy dn dn.length 0 0), .list (.ints .i64 (ZhK l dn dn.length 0 (List.replicate ks.length (-1))))])) none:=
 start (Zyu ms ks rs l wn fl dn) fun C hC=>tgo hC ZuI ZIj (by
  have:=Zpd hC ms ks rs l wn fl dn h.1 h.2 dn.length 0 (List.replicate ks.length (-1)) 0 0 (by omega) (by simp)
  have h3:=(actG_iff.1 h.2).2.2
  simp[ZDu,h3]
  exact this)
def k85:Ctr:=⟨85,0,fun _ a=>match a with |[.agg (.gen [.list (.big .str _), .list (.big (.agg [.str, .int .i64]) ks), .list (.big (.agg [.str, .int .i64, .int .i64, .int .i64, .int .i64]) _), .list (.big (.agg [.int .i64, .int .i64, .int .i64]) l), .int .i64 _, .int .i64 _]), .list (.big (.agg [.int .i64, .int .i64]) dn)]=>some (decide (dn.length≤l.length∧Zu7 ks l=true), .agg (.gen [.int .i64 (ZmZ ks l dn.length 0 0), .int .i64 (ZBy dn dn.length 0 0), .list (.ints .i64 (ZhK l dn dn.length 0 (List.replicate ks.length (-1))))]),none) |_=>none⟩
theorem ZHc:k85.OK Tryz.prog:=fun pa args r fr h=>by
 simp only[k85]at h
 split at h
 ·simp only[zS,zP,decide_eq_true_eq]at h
  obtain⟨h0,rfl,rfl⟩:=h
  exact Zvd _ _ _ _ _ _ _ h0
 ·cases h
def Bk:List Ctr:=[k85]++Bj
theorem Zmd:ZaF Tryz.prog Bk:=⟨ZHc,ZuI⟩
end Go.Proofs.YtkeoeooghhjibaaGreatDoor
namespace Go.Proofs.YtkeoeooghhjibaaGreatDoor
variable {A:Ar}{K:KT}{F:FT}{M:MT}
set_option maxRecDepth 100000
set_option linter.unusedVariables false
def ZFF(ms ks rs l:zA)(wn fl at0 mo:Int)(dn:zA)(ha:Bool)(ba:Int)(to:Bool)(dw:zI)(up:zA):AFrame:=vF 39 210 [(0,vU ms ks rs l wn fl),(1,vS at0 mo dn ha ba to dw up)] [.code a39.code] [.tmp 4]
def ZOd(ms ks rs l:zA)(wn fl at0 mo:Int)(dn:zA)(ha:Bool)(ba:Int)(to:Bool)(dw:zI)(up:zA):List AFrame:=[(ZFF ms ks rs l wn fl at0 mo dn ha ba to dw up)]
theorem Zyq(ms ks rs l:zA)(wn fl at0 mo:Int)(dn:zA)(ha:Bool)(ba:Int)(to:Bool)(dw:zI)(up:zA):Zam tab 39 [vU ms ks rs l wn fl,vS at0 mo dn ha ba to dw up]=some (ZFF ms ks rs l wn fl at0 mo dn ha ba to dw up):=rfl
def ZiG(ms ks rs l:zA)(wn fl at0 mo:Int)(dn:zA)(ha:Bool)(ba:Int)(to:Bool)(dw:zI)(up:zA)(n0:Int):List AFrame:=[vF 39 210 [vP 2 39003,vP 3 39004,vI 5 n0] (vC ZDS ZIG) [.tmp 4]]
def Zf7(ms ks rs l:zA)(wn fl at0 mo:Int)(dn:zA)(ha:Bool)(ba:Int)(to:Bool)(dw:zI)(up:zA)(n0:Int):Zad:=[vH 39003 29 6 (vx [vU ms ks rs l wn fl]),vH 39004 37 8 (vx [vS at0 mo dn ha ba to dw up])]
abbrev Zgj(ms ks rs l:zA)(wn fl at0 mo:Int)(dn:zA)(ha:Bool)(ba:Int)(to:Bool)(dw:zI)(up:zA)(n0:Int):List AFrame×Zad:=(ZiG ms ks rs l wn fl at0 mo dn ha ba to dw up n0,Zf7 ms ks rs l wn fl at0 mo dn ha ba to dw up n0)
def Zh3(ms ks rs l:zA)(wn fl at0 mo:Int)(dn:zA)(ha:Bool)(ba:Int)(to:Bool)(dw:zI)(up:zA)(n1 n2:Int):List AFrame:=[vF 39 210 [vP 2 39003,vP 3 39004,vI 8 n1,vI 9 n2] (vC ZEb ZJX) [.tmp 4]]
def ZgL(ms ks rs l:zA)(wn fl at0 mo:Int)(dn:zA)(ha:Bool)(ba:Int)(to:Bool)(dw:zI)(up:zA)(n1 n2:Int):Zad:=[vH 39003 29 6 (vx [vU ms ks rs l wn fl]),vH 39004 37 8 (vx [vS at0 mo dn ha ba to dw up])]
abbrev ZeD(ms ks rs l:zA)(wn fl at0 mo:Int)(dn:zA)(ha:Bool)(ba:Int)(to:Bool)(dw:zI)(up:zA)(n1 n2:Int):List AFrame×Zad:=(Zh3 ms ks rs l wn fl at0 mo dn ha ba to dw up n1 n2,ZgL ms ks rs l wn fl at0 mo dn ha ba to dw up n1 n2)
def Zig(at0 mo:Int)(dn:zA)(ha:Bool)(ba:Int)(to:Bool)(dw:zI)(up:zA)(n1 n3:Int):List AFrame:=[vF 39 210 [vP 3 39004,vI 8 n1,vI 10 n3] (vC ZB5 ZJF) [.tmp 4]]
def Zgd(at0 mo:Int)(dn:zA)(ha:Bool)(ba:Int)(to:Bool)(dw:zI)(up:zA)(n1 n3:Int):Zad:=[vH 39004 37 8 (vx [vS at0 mo dn ha ba to dw up])]
abbrev ZgG(at0 mo:Int)(dn:zA)(ha:Bool)(ba:Int)(to:Bool)(dw:zI)(up:zA)(n1 n3:Int):List AFrame×Zad:=(Zig at0 mo dn ha ba to dw up n1 n3,Zgd at0 mo dn ha ba to dw up n1 n3)
def ZqM(A:Ar)(K:KT)(F:FT)(ms ks rs l:zA)(wn fl at0 mo:Int)(dn:zA)(ha:Bool)(ba:Int)(to:Bool)(dw:zI)(up:zA):Prop:=bB (A.not (Zab at0 0 1000000000000)) (F (AV.int .i64 2) none) (bB (A.lt (A.int (A.lenA l)) (A.int (A.lenA dn))) (F (AV.int .i64 8) none) (bB (A.lt fl (A.int (A.len dw))) (F (AV.int .i64 8) none) (bB (A.lt fl (A.int (A.lenA up))) (F (AV.int .i64 8) none) (K (Zgj ms ks rs l wn fl at0 mo dn ha ba to dw up 0)))))
theorem ZJ1{ms ks rs l:zA}{wn fl at0 mo:Int}{dn:zA}{ha:Bool}{ba:Int}{to:Bool}{dw:zI}{up:zA} :Zaw A tab Bk 39 K F M (.run 14 (.tf (.run 5 (.fn)) (.run 12 (.tf (.ty (.ty (.ty (.ty (.ty (.ty (.run 1 (.ty (.ty (.ty (.ty (.ty (.ty (.ty (.run 2 (.ty (.run 5 (.fn)))))))))))))))))) (.fy (.fy (.fy (.fy (.fy (.fy (.run 1 (.tf (.ty (.ty (.ty (.ty (.ty (.ty (.run 2 (.ty (.run 5 (.fn)))))))))) (.fy (.fy (.fy (.fy (.fy (.fy (.run 2 (.tf (.run 5 (.fn)) (.run 9 (.hd)))))))))))))))))))))) (ZOd ms ks rs l wn fl at0 mo dn ha ba to dw up) []=ZqM A K F ms ks rs l wn fl at0 mo dn ha ba to dw up:=by kernel_rfl
def ZaM(A:Ar)(K:KT)(F:FT)(ms ks rs l:zA)(wn fl at0 mo:Int)(dn:zA)(ha:Bool)(ba:Int)(to:Bool)(dw:zI)(up:zA)(n0:Int):Prop:=let u0:=A.nat n0;let u1:=A.subA dn 0 (A.nat n0-0);let u2:=A.nthA dn u0;let u4:=A.lenA dn;let u3:=A.int u4;let u5:=A.sub n0 1;let u6:=A.add n0 1;bB (A.lt n0 u3) (rB [Zag (Zag (A.le 0 n0) (Nat.blt u0 u4)) true] (qB [A.not (A.eq (u2.cellAt 0).toI n0)] (F (AV.int .i64 9) none) (qB [A.lt at0 (u2.cellAt 1).toI,!A.not (A.eq (u2.cellAt 0).toI n0)] (F (AV.int .i64 9) none) (qB [Zag (Zag (A.le 0 u5) (Nat.blt (A.nat u5) u4)) true,A.inR .i64 u5,A.lt 0 n0,!A.lt at0 (u2.cellAt 1).toI,!A.not (A.eq (u2.cellAt 0).toI n0)] (bB (A.lt (u2.cellAt 1).toI ((A.nthA dn (A.nat u5)).cellAt 1).toI) (F (AV.int .i64 9) none) (rB [decide (List.length u1≤List.length l∧Zu7 ks l=true),Zag (A.le 0 n0) (Zag (Zag (Nat.ble 0 u0) (Nat.ble u0 u4)) true)] (qB [A.not (Zab (u2.cellAt 1).toI ((A.nthA l u0).cellAt 1).toI ((A.nthA l u0).cellAt 2).toI),Zag (Zag (A.le 0 n0) (Nat.blt u0 (A.lenA l))) true,Zag (Zag (A.le 0 n0) (Nat.blt u0 (A.lenA l))) true] (F (AV.int .i64 26) none) (rB [decide (Zbx rs (u2.cellAt 1).toI (ZhK l u1 (List.length u1) 0 (List.replicate (List.length ks) (-1)))=true),Zag (Zag (A.le 0 n0) (Nat.blt u0 (A.lenA l))) true,!A.not (Zab (u2.cellAt 1).toI ((A.nthA l u0).cellAt 1).toI ((A.nthA l u0).cellAt 2).toI),Zag (Zag (A.le 0 n0) (Nat.blt u0 (A.lenA l))) true,Zag (Zag (A.le 0 n0) (Nat.blt u0 (A.lenA l))) true] (bB (A.not (A.eqS (Ze3 rs (ZmZ ks l (List.length u1) 0 0) (u2.cellAt 1).toI (ZhK l u1 (List.length u1) 0 (List.replicate (List.length ks) (-1))) ((A.nthA l u0).cellAt 0).toI (List.length rs) 0) [])) (F (AV.int .i64 26) none) (rB [A.inR .i64 u6] (K (Zgj ms ks rs l wn fl at0 mo dn ha ba to dw up u6)))))))) (rB [!A.lt 0 n0,!A.lt at0 (u2.cellAt 1).toI,!A.not (A.eq (u2.cellAt 0).toI n0)] (rB [decide (List.length u1≤List.length l∧Zu7 ks l=true),Zag (A.le 0 n0) (Zag (Zag (Nat.ble 0 u0) (Nat.ble u0 u4)) true)] (qB [A.not (Zab (u2.cellAt 1).toI ((A.nthA l u0).cellAt 1).toI ((A.nthA l u0).cellAt 2).toI),Zag (Zag (A.le 0 n0) (Nat.blt u0 (A.lenA l))) true,Zag (Zag (A.le 0 n0) (Nat.blt u0 (A.lenA l))) true] (F (AV.int .i64 26) none) (rB [decide (Zbx rs (u2.cellAt 1).toI (ZhK l u1 (List.length u1) 0 (List.replicate (List.length ks) (-1)))=true),Zag (Zag (A.le 0 n0) (Nat.blt u0 (A.lenA l))) true,!A.not (Zab (u2.cellAt 1).toI ((A.nthA l u0).cellAt 1).toI ((A.nthA l u0).cellAt 2).toI),Zag (Zag (A.le 0 n0) (Nat.blt u0 (A.lenA l))) true,Zag (Zag (A.le 0 n0) (Nat.blt u0 (A.lenA l))) true] (bB (A.not (A.eqS (Ze3 rs (ZmZ ks l (List.length u1) 0 0) (u2.cellAt 1).toI (ZhK l u1 (List.length u1) 0 (List.replicate (List.length ks) (-1))) ((A.nthA l u0).cellAt 0).toI (List.length rs) 0) [])) (F (AV.int .i64 26) none) (rB [A.inR .i64 u6] (K (Zgj ms ks rs l wn fl at0 mo dn ha ba to dw up u6)))))))))))) (rB [decide (List.length dn≤List.length l∧Zu7 ks l=true)] (bB (A.not (A.eq mo (ZmZ ks l (List.length dn) 0 0))) (F (AV.int .i64 3) none) (bB ha (bB (A.eq u3 (A.int (A.lenA l))) (F (AV.int .i64 21) none) (bB (A.not (Zab ba 0 u3)) (F (AV.int .i64 2) none) (bB to (rB [!A.not ha] (bB (A.not (A.eq ba u3)) (F (AV.int .i64 3) none) (K (ZeD ms ks rs l wn fl at0 mo dn ha ba to dw up u3 0)))) (K (ZeD ms ks rs l wn fl at0 mo dn ha ba to dw up u3 0))))) (bB (A.not (Zab ba 0 u3)) (F (AV.int .i64 2) none) (bB to (rB [A.not ha] (F (AV.int .i64 3) none)) (K (ZeD ms ks rs l wn fl at0 mo dn ha ba to dw up u3 0)))))))
theorem Zkm{ms ks rs l:zA}{wn fl at0 mo:Int}{dn:zA}{ha:Bool}{ba:Int}{to:Bool}{dw:zI}{up:zA}{n0:Int} :vT A tab Bk 39 K F M (.run 10 (.tf (.run 15 (.alt [true,true] (.run 1 (.ty (.run 5 (.fn)))) (.alt [false,true] (.run 1 (.ty (.run 5 (.fn)))) (.alt [false,false,true] (.run 1 (.tf (.run 5 (.fn)) (.run 12 (.tf (.run 1 (.ty (.run 5 (.fn)))) (.run 1 (.tf (.run 5 (.fn)) (.run 9 (.hd)))))))) (.alt [false,false,false] (.run 1 (.fy (.run 12 (.tf (.run 1 (.ty (.run 5 (.fn)))) (.run 1 (.tf (.run 5 (.fn)) (.run 9 (.hd)))))))) (.no)))))) (.run 12 (.tf (.run 5 (.fn)) (.run 7 (.tf (.ty (.ty (.ty (.ty (.ty (.run 2 (.tf (.run 5 (.fn)) (.run 10 (.tf (.run 5 (.fn)) (.run 7 (.tf (.ty (.ty (.ty (.fy (.fy (.fy (.fy (.alt [true,false] (.ty (.run 2 (.tf (.run 5 (.fn)) (.run 9 (.hd))))) (.no))))))))) (.fy (.fy (.fy (.run 4 (.fy (.fy (.run 2 (.fy (.run 9 (.hd))))))))))))))))))))) (.fy (.fy (.fy (.fy (.fy (.run 2 (.fy (.run 10 (.tf (.run 5 (.fn)) (.run 7 (.tf (.ty (.ty (.ty (.ty (.ty (.ty (.ty (.alt [true,true] (.ty (.run 2 (.ty (.run 5 (.fn))))) (.no))))))))) (.fy (.fy (.fy (.run 4 (.fy (.fy (.run 2 (.fy (.run 9 (.hd))))))))))))))))))))))))))) (Zgj ms ks rs l wn fl at0 mo dn ha ba to dw up n0)=ZaM A K F ms ks rs l wn fl at0 mo dn ha ba to dw up n0:=by kernel_rfl
def Zeg(A:Ar)(K:KT)(F:FT)(ms ks rs l:zA)(wn fl at0 mo:Int)(dn:zA)(ha:Bool)(ba:Int)(to:Bool)(dw:zI)(up:zA)(n1 n2:Int):Prop:=bB (A.lt n2 (A.int (A.len dw))) (rB [A.inR .i64 (A.sub (A.int (A.lenA l)) 1),Zag (Zag (A.le 0 n2) (Nat.blt (A.nat n2) (A.len dw))) true] (bB (A.not (Zab (A.nth dw (A.nat n2)) 0 (A.sub (A.int (A.lenA l)) 1))) (F (AV.int .i64 6) none) (rB [A.inR .i64 (A.add n2 1)] (K (ZeD ms ks rs l wn fl at0 mo dn ha ba to dw up n1 (A.add n2 1)))))) (K (ZgG at0 mo dn ha ba to dw up n1 0))
theorem Zj2{ms ks rs l:zA}{wn fl at0 mo:Int}{dn:zA}{ha:Bool}{ba:Int}{to:Bool}{dw:zI}{up:zA}{n1 n2:Int} :vT A tab Bk 39 K F M (.run 10 (.tf (.run 6 (.tf (.run 5 (.fn)) (.run 9 (.hd)))) (.run 9 (.hd)))) (ZeD ms ks rs l wn fl at0 mo dn ha ba to dw up n1 n2)=Zeg A K F ms ks rs l wn fl at0 mo dn ha ba to dw up n1 n2:=by kernel_rfl
def Zey(A:Ar)(K:KT)(F:FT)(at0 mo:Int)(dn:zA)(ha:Bool)(ba:Int)(to:Bool)(dw:zI)(up:zA)(n1 n3:Int):Prop:=let u0:=rB [A.inR .i64 (A.add n3 1)] (K (ZgG at0 mo dn ha ba to dw up n1 (A.add n3 1)));let u1:=A.nat n3;let u2:=A.lenA up;let u3:=A.nthA up u1;bB (A.lt n3 (A.int u2)) (rB [Zag (Zag (A.le 0 n3) (Nat.blt u1 u2)) true] (bB (A.not (Zab (u3.cellAt 0).toI 0 n1)) (F (AV.int .i64 2) none) (rB [Zag (Zag (A.le 0 n3) (Nat.blt u1 u2)) true] (bB (u3.cellAt 1).toB (bB (A.not ha) (F (AV.int .i64 3) none) (rB [Zag (Zag (A.le 0 n3) (Nat.blt u1 u2)) true] (bB (A.not (A.eq (u3.cellAt 0).toI n1)) (F (AV.int .i64 3) none) u0))) u0)))) (F (AV.int .i64 0) none)
theorem ZjE{at0 mo:Int}{dn:zA}{ha:Bool}{ba:Int}{to:Bool}{dw:zI}{up:zA}{n1 n3:Int} :vT A tab Bk 39 K F M (.run 10 (.tf (.run 17 (.tf (.run 5 (.fn)) (.run 10 (.tf (.ty (.ty (.ty (.tf (.ty (.ty (.ty (.ty (.ty (.ty (.ty (.alt [true,true] (.ty (.run 2 (.ty (.run 5 (.fn))))) (.no))))))))) (.fy (.fy (.fy (.fy (.fy (.fy (.fy (.alt [true,false] (.ty (.run 2 (.tf (.run 5 (.fn)) (.run 9 (.hd))))) (.no))))))))))))) (.fy (.fy (.fy (.run 8 (.fy (.fy (.run 2 (.fy (.run 9 (.hd)))))))))))))) (.run 6 (.fn)))) (ZgG at0 mo dn ha ba to dw up n1 n3)=Zey A K F at0 mo dn ha ba to dw up n1 n3:=by kernel_rfl
end Go.Proofs.YtkeoeooghhjibaaGreatDoor
namespace Go.Proofs.YtkeoeooghhjibaaGreatDoor
variable {A:Ar}{K:KT}{F:FT}{M:MT}
def m0L(ks l dn:zA)(i:Nat):zI:=ZhK l dn i 0 (List.replicate ks.length (-1))
def m0A(ks l:zA)(i:Nat):Int:=ZmZ ks l i 0 0
def Zbb(rs ks l dn:zA)(at0:Int):Nat→Nat→Int
 |0,_=>0
 |m+1,i=>if Zaj dn i 0=i∧Zaj dn i 1≤at0∧(0<i→Zaj dn (i-1:Nat) 1≤Zaj dn i 1)then
   (if ZhL rs (m0A ks l i) (Zaj dn i 1) (m0L ks l dn i) (Zaj l i 0) (Zaj l i 1) (Zaj l i 2)=true then Zbb rs ks l dn at0 m (i+1)else 26)
  else 9
def ZbD(n:Int):zI→Int
 |[]=>0
 |x::xs=>if Zab x 0 (n-1)=true then ZbD n xs else 6
def upR(n:Int)(ha:Bool):zA→Int
 |[]=>0
 |x::xs=>if Zab (x.cellAt 0).toI 0 n=true then(if (x.cellAt 1).toB=true∧¬(ha=true∧(x.cellAt 0).toI=n)then 3 else upR n ha xs)else 2
def Zff(ks l:zA)(mo:Int)(dn:zA)(ha:Bool)(ba:Int)(to:Bool)(dw:zI)(up:zA):Int:=
 if mo=m0A ks l dn.length then
  (if ha=true∧dn.length=l.length then 21 else
    (if Zab ba 0 dn.length=true then
      (if to=true∧¬(ha=true∧ba=dn.length)then 3 else
        (if ZbD l.length dw=0 then upR dn.length ha up else ZbD l.length dw))
    else 2))
 else 3
def stE(ks rs l:zA)(fl at0 mo:Int)(dn:zA)(ha:Bool)(ba:Int)(to:Bool)(dw:zI)(up:zA):Int:=
 if Zab at0 0 1000000000000=true then
  (if dn.length≤l.length∧(dw.length:Int)≤fl∧(up.length:Int)≤fl then
    (if Zbb rs ks l dn at0 dn.length 0=0 then Zff ks l mo dn ha ba to dw up else Zbb rs ks l dn at0 dn.length 0)
  else 8)
 else 2
theorem ZlQ(ks l:zA):∀(m i:Nat) (a:Int),ZmZ ks l (m+1) i a=exM ks (ZmZ ks l m i a) (Zaj l (i+m:Nat) 0)
 |0,i,a=>rfl
 |m+1,i,a=>by
  rw[ZmZ,ZlQ ks l m (i+1),ZmZ,show i+1+m=i+(m+1) by omega]
theorem ZmQ(l dn:zA):∀(m i:Nat) (xs:zI),ZhK l dn (m+1) i xs=(ZhK l dn m i xs).set (Zaj l (i+m:Nat) 0).toNat (Zaj dn (i+m:Nat) 1)
 |0,i,xs=>rfl
 |m+1,i,xs=>by
  rw[ZhK,ZmQ l dn m (i+1),ZhK,show i+1+m=i+(m+1) by omega]
theorem ZiD(l dn:zA)(n:Nat):∀(m i:Nat) (xs:zI),i+m≤n→ZhK l (dn.take n) m i xs=ZhK l dn m i xs
 |0,i,xs,_=>rfl
 |m+1,i,xs,h=>by
  rw[ZhK,ZhK,ZiD l dn n m (i+1) _ (by omega)]
  have:Zaj (dn.take n) i 1=Zaj dn i 1:=by
   unfold Zaj
   rw[List.getD_eq_getElem?_getD,List.getD_eq_getElem?_getD,Int.toNat_natCast,List.getElem?_take,if_pos (by omega)]
  rw[this]
theorem ZfT(ks l:zA)(i:Nat):m0A ks l (i+1)=exM ks (m0A ks l i) (Zaj l i 0):=by
 unfold m0A;rw[ZlQ,Nat.zero_add]
theorem Zfp(ks l dn:zA)(i:Nat):m0L ks l dn (i+1)=(m0L ks l dn i).set (Zaj l i 0).toNat (Zaj dn i 1):=by
 unfold m0L;rw[ZmQ,Nat.zero_add]
def m0T(dn:zA):Nat→Int
 |0=>0
 |i+1=>Zaj dn i 1
theorem okD{ms ks rs l:zA}(hf:OkF ms ks rs l)(dn:zA){i:Nat}(h:OkT ks (m0T dn i) (m0L ks l dn i)){at0:Int}(hat:at0≤1000000000000)(h1:Zaj dn i 1≤at0)(h2:0<i→Zaj dn (i-1:Nat) 1≤Zaj dn i 1)(hw:Zab (Zaj dn i 1) (Zaj l i 1) (Zaj l i 2)=true)(hl:i<l.length):
 Zbx rs (Zaj dn i 1) (m0L ks l dn i)=true∧OkT ks (m0T dn (i+1)) (m0L ks l dn (i+1)):=by
 have hw:=within_iff.1 hw
 obtain⟨_,hb,_⟩:=hf.act i hl
 have hge:m0T dn i≤Zaj dn i 1:=by
  cases i with
  |zero=>simp only[m0T];omega
  |succ i=>have:=h2 (by omega);simpa[m0T]using this
 refine⟨h.forb (ms:=ms) (l:=l) hf hge (by omega),?_⟩
 rw[Zfp]
 exact h.set hge (by omega) _
theorem ZHT(ks l dn:zA):OkT ks (m0T dn 0) (m0L ks l dn 0):=⟨by simp[m0L,ZhK],fun x hx=>by simp[m0L,ZhK]at hx;rw[hx.2];simp[m0T],by simp[m0T],by simp[m0T]⟩
theorem ZsK{ms ks rs l:zA}(hf:OkF ms ks rs l):Zu7 ks l=true:=actG_iff.2 ⟨fun i hi=>(hf.act i hi).1,by have:=hf.l1;omega,by have:=hf.ks1;omega⟩
theorem Zcr{ms ks rs l:zA}{wn fl:Int}(h:upE ms ks rs l wn fl=0):OkF ms ks rs l∧(1≤wn∧wn≤6)∧1≤fl∧fl≤6:=by
 unfold upE at h
 split at h
 ·rename_i hf
  split at h
  ·rename_i hw
   have h1:=within_iff.1 hw.1
   have h2:=within_iff.1 hw.2
   exact⟨okF hf,h1,h2⟩
  ·cases h
 ·rename_i hf;exact absurd h hf
section
variable {C:Ctx}(hC:C.P=Tryz.prog)(ms ks rs l:zA)(wn fl:Int)(at0 mo:Int)(dn:zA)(ha:Bool)(ba:Int)(to:Bool)(dw:zI)(up:zA)
include hC
theorem ZLo(n1:Int)(hl:up.length≤1000000):∀m k:Nat,k+m=up.length→vE C (ZgG at0 mo dn ha ba to dw up n1 k) (Zco 39 (.int .i64 (upR n1 ha (up.drop k))) none)
 |0,k,hk=>tgo hC Zmd ZjE (by rw[List.drop_of_length_le (by omega)];simp[Zey,show ¬(k:Int)<up.length by omega,upR])
 |m+1,k,hk=>by
  have ih:=ZLo n1 hl m (k+1) (by omega)
  have hlt:(k:Int)<up.length:=by omega
  have hlt2:k<up.length:=by omega
  refine tgo hC Zmd ZjE ?_
  rw[Zi6 hlt2]
  have hr:(k:Int)+1≤9223372036854775807:=by omega
  generalize hq:((up.getD k .top).cellAt 0).toI=q
  generalize hp:((up.getD k .top).cellAt 1).toB=p
  by_cases h3:q=n1
  ·subst h3
   by_cases h1:Zab q 0 q=true<;>cases p<;>cases ha<;>
    simp[-List.getD_eq_getElem?_getD,Zey,hlt,hlt2,h1,hq,hp,upR]<;>exact⟨by omega,by simpa using ih⟩
  ·by_cases h1:Zab q 0 n1=true<;>cases p<;>cases ha<;>
    simp[-List.getD_eq_getElem?_getD,Zey,hlt,hlt2,h1,h3,hq,hp,upR]<;>exact⟨by omega,by simpa using ih⟩
theorem ZvI(hl:dw.length≤1000000∧l.length≤1000000∧up.length≤1000000):∀m k:Nat,k+m=dw.length→vE C (ZeD ms ks rs l wn fl at0 mo dn ha ba to dw up dn.length k) (Zco 39 (.int .i64 (if ZbD l.length (dw.drop k)=0 then upR dn.length ha up else ZbD l.length (dw.drop k))) none)
 |0,k,hk=>tgo hC Zmd Zj2 (by
  have:=ZLo hC at0 mo dn ha ba to dw up dn.length hl.2.2 up.length 0 (by omega)
  rw[List.drop_of_length_le (by omega)]
  simp[Zeg,show ¬(k:Int)<dw.length by omega,ZbD]
  simpa using this)
 |m+1,k,hk=>by
  have ih:=ZvI hl m (k+1) (by omega)
  have hlt:(k:Int)<dw.length:=by omega
  have hlt2:k<dw.length:=by omega
  refine tgo hC Zmd Zj2 ?_
  rw[Zrj hlt2]
  by_cases h1:Zab (dw.getD k 0) 0 ((l.length:Int)-1)=true
  ·simp[-List.getD_eq_getElem?_getD,Zeg,hlt,hlt2,h1,ZbD]
   exact⟨by omega,by omega,by simpa using ih⟩
  ·simp[-List.getD_eq_getElem?_getD,Zeg,hlt,hlt2,h1,ZbD]
   omega
theorem ZvT(hf:OkF ms ks rs l)(hl:dw.length≤1000000∧up.length≤1000000)(hd:dn.length≤l.length)(hat:at0≤1000000000000):∀m k:Nat,k+m=dn.length→OkT ks (m0T dn k) (m0L ks l dn k)→vE C (Zgj ms ks rs l wn fl at0 mo dn ha ba to dw up k) (Zco 39 (.int .i64 (if Zbb rs ks l dn at0 m k=0 then Zff ks l mo dn ha ba to dw up else Zbb rs ks l dn at0 m k)) none)
 |0,k,hk,_=>tgo hC Zmd Zkm (by
  have hll:=hf.l1
  have hg:=ZsK hf
  have:=ZvI hC ms ks rs l wn fl at0 mo dn ha ba to dw up ⟨hl.1,by omega,hl.2⟩ dw.length 0 (by omega)
  have e:∀n,ZmZ ks l n 0 0=m0A ks l n:=fun _=>rfl
  obtain rfl:k=dn.length:=by omega
  simp only[List.drop_zero]at this
  rw[show Zbb rs ks l dn at0 0 dn.length=0 from rfl,if_pos rfl]
  by_cases h1:mo=m0A ks l dn.length
  ·subst h1
   by_cases h2:dn.length=l.length
   ·have h2i:((dn.length:Int)=l.length)=True:=eq_true (by omega)
    have h2:=eq_true h2
    cases ha
    ·by_cases h3:Zab ba 0 dn.length=true
     ·cases to<;>simp[ZaM,e,hg,hd,h2,h2i,h3,Zff]
      simpa using this
     ·simp[ZaM,e,hg,hd,h2,h2i,h3,Zff]
    ·simp[ZaM,e,hg,hd,h2,h2i,Zff]
   ·have h2i:¬((dn.length:Int)=l.length):=by omega
    by_cases h3:Zab ba 0 dn.length=true
    ·by_cases h4:ba=dn.length
     ·subst h4
      cases to<;>cases ha<;>simp[ZaM,e,hg,hd,h2,h2i,h3,Zff]
      all_goals simpa using this
     ·cases to<;>cases ha<;>simp[ZaM,e,hg,hd,h2,h2i,h3,h4,Zff]
      all_goals simpa using this
    ·cases ha<;>simp[ZaM,e,hg,hd,h2,h2i,h3,Zff]
  ·simp[ZaM,e,hg,hd,h1,Zff])
 |m+1,k,hk,hT=>by
  have hlt:(k:Int)<dn.length:=by omega
  have hlt2:k<dn.length:=by omega
  have hlt3:k<l.length:=by omega
  have hlt4:(k:Int)<l.length:=by omega
  have hll:=hf.l1
  have hg:=ZsK hf
  have e0:((dn.getD k .top).cellAt 0).toI=Zaj dn k 0:=rfl
  have e1:((dn.getD k .top).cellAt 1).toI=Zaj dn k 1:=rfl
  have e2:((l.getD k .top).cellAt 0).toI=Zaj l k 0:=rfl
  have e3:((l.getD k .top).cellAt 1).toI=Zaj l k 1:=rfl
  have e4:((l.getD k .top).cellAt 2).toI=Zaj l k 2:=rfl
  have e6:ZmZ ks l k 0 0=m0A ks l k:=rfl
  have e7:ZhK l (dn.take k) k 0 (List.replicate ks.length (-1))=m0L ks l dn k:=ZiD l dn k k 0 _ (by omega)
  have e8:min k dn.length=k:=by omega
  have hfn:=ZjX (rs:=rs) (a:=m0A ks l k) (t:=Zaj dn k 1) (xs:=m0L ks l dn k) (c:=Zaj l k 0) fun j hj=>Zm5 (hf.name j hj)
  have hr1:(k:Int)+1≤9223372036854775807:=by omega
  refine tgo hC Zmd Zkm ?_
  by_cases h1:Zaj dn k 0=k
  ·by_cases h2:Zaj dn k 1≤at0
   ·by_cases h3:0<k→Zaj dn (k-1:Nat) 1≤Zaj dn k 1
    ·have hd1:Zbb rs ks l dn at0 (m+1) k=if ZhL rs (m0A ks l k) (Zaj dn k 1) (m0L ks l dn k) (Zaj l k 0) (Zaj l k 1) (Zaj l k 2)=true then Zbb rs ks l dn at0 m (k+1)else 26:=by rw[Zbb,if_pos ⟨h1,h2,h3⟩]
     rw[hd1]
     unfold ZhL
     have e9:((dn.getD (k-1) .top).cellAt 1).toI=Zaj dn (k-1:Nat) 1:=rfl
     have h2n:¬at0<Zaj dn k 1:=by omega
     by_cases h4:Zab (Zaj dn k 1) (Zaj l k 1) (Zaj l k 2)=true
     ·obtain⟨hfb,hT'⟩:=okD hf dn hT hat h2 h3 h4 hlt3
      have ih:=ZvT hf hl hd hat m (k+1) (by omega) hT'
      by_cases h5:Zdm rs (m0A ks l k) (Zaj dn k 1) (m0L ks l dn k) (Zaj l k 0)=true
      ·have h6:=hfn.2 h5
       by_cases hk0:0<k
       ·have h3':=Int.not_lt.2 (h3 hk0)
        simp[-List.getD_eq_getElem?_getD,ZaM,hlt,hlt2,hlt3,e0,e1,e2,e3,e4,e6,e7,e8,e9,h1,h2n,h3',h4,h5,h6,hg,hfb,hk0,hr1]
        exact⟨by omega,by omega,by omega,by omega,by simpa using ih⟩
       ·simp[-List.getD_eq_getElem?_getD,ZaM,hlt,hlt2,hlt3,e0,e1,e2,e3,e4,e6,e7,e8,h1,h2n,h4,h5,h6,hg,hfb,hk0,hr1]
        exact⟨by omega,by omega,by simpa using ih⟩
      ·have h6:¬Ze3 rs (m0A ks l k) (Zaj dn k 1) (m0L ks l dn k) (Zaj l k 0) rs.length 0=[]:=fun h=>h5 (hfn.1 h)
       by_cases hk0:0<k
       ·have h3':=Int.not_lt.2 (h3 hk0)
        simp[-List.getD_eq_getElem?_getD,ZaM,hlt,hlt2,hlt3,e0,e1,e2,e3,e4,e6,e7,e8,e9,h1,h2n,h3',h4,h5,h6,hg,hfb,hk0]
        omega
       ·simp[-List.getD_eq_getElem?_getD,ZaM,hlt,hlt2,hlt3,e0,e1,e2,e3,e4,e6,e7,e8,h1,h2n,h4,h5,h6,hg,hfb,hk0]
        omega
     ·by_cases hk0:0<k
      ·have h3':=Int.not_lt.2 (h3 hk0)
       simp[-List.getD_eq_getElem?_getD,ZaM,hlt,hlt2,hlt3,e0,e1,e2,e3,e4,e6,e7,e8,e9,h1,h2n,h3',h4,hg,hk0]
       omega
      ·simp[-List.getD_eq_getElem?_getD,ZaM,hlt,hlt2,hlt3,e0,e1,e2,e3,e4,e6,e7,e8,h1,h2n,h4,hg,hk0]
       omega
    ·have hd1:Zbb rs ks l dn at0 (m+1) k=9:=by rw[Zbb,if_neg (fun h=>h3 h.2.2)]
     obtain⟨hk0,h3'⟩:0<k∧Zaj dn k 1<Zaj dn (k-1:Nat) 1:=by
      by_cases hk0:0<k
      ·exact⟨hk0,by have:¬Zaj dn (k-1:Nat) 1≤Zaj dn k 1:=fun h=>h3 fun _=>h;omega⟩
      ·exact absurd (fun h=>absurd h hk0) h3
     have e9:((dn.getD (k-1) .top).cellAt 1).toI=Zaj dn (k-1:Nat) 1:=rfl
     have h2n:¬at0<Zaj dn k 1:=by omega
     rw[hd1]
     simp[-List.getD_eq_getElem?_getD,ZaM,hlt,hlt2,hlt3,e0,e1,e2,e3,e4,e6,e7,e8,e9,h1,h2n,h3',hk0]
     omega
   ·have hd1:Zbb rs ks l dn at0 (m+1) k=9:=by rw[Zbb,if_neg (fun h=>h2 h.2.1)]
    have h2n:at0<Zaj dn k 1:=by omega
    rw[hd1]
    simp[-List.getD_eq_getElem?_getD,ZaM,hlt,hlt2,hlt3,e0,e1,e2,e3,e4,e6,e7,e8,h1,h2n]
  ·have hd1:Zbb rs ks l dn at0 (m+1) k=9:=by rw[Zbb,if_neg (fun h=>h1 h.1)]
   rw[hd1]
   simp[-List.getD_eq_getElem?_getD,ZaM,hlt,hlt2,hlt3,e0,e1,e2,e3,e4,e6,e7,e8,h1]
end
theorem Zqh(ms ks rs l:zA)(wn fl:Int)(at0 mo:Int)(dn:zA)(ha:Bool)(ba:Int)(to:Bool)(dw:zI)(up:zA)(h:upE ms ks rs l wn fl=0∧dn.length≤1000000∧dw.length≤1000000∧up.length≤1000000):Zan Tryz.prog 39 [vU ms ks rs l wn fl, (vS at0 mo dn ha ba to dw up)] (.int .i64 (stE ks rs l fl at0 mo dn ha ba to dw up)) none:=
 start (Zyq ms ks rs l wn fl at0 mo dn ha ba to dw up) fun C hC=>tgo hC Zmd ZJ1 (by
  obtain⟨hf,_,hfl⟩:=Zcr h.1
  have hll:=hf.l1
  unfold stE
  by_cases h1:Zab at0 0 1000000000000=true
  ·have h1':=within_iff.1 h1
   by_cases h2:dn.length≤l.length
   ·have h2n:¬(l.length:Int)<dn.length:=by omega
    have:=ZvT hC ms ks rs l wn fl at0 mo dn ha ba to dw up hf h.2.2 h2 h1'.2 dn.length 0 (by omega) (ZHT ks l dn)
    by_cases h3:(dw.length:Int)≤fl
    ·have h3n:¬fl<(dw.length:Int):=by omega
     by_cases h4:(up.length:Int)≤fl
     ·have h4n:¬fl<(up.length:Int):=by omega
      simp[ZqM,h1,h2,h2n,h3,h3n,h4,h4n]
      simpa using this
     ·have h4n:fl<(up.length:Int):=by omega
      simp[ZqM,h1,h2,h2n,h3,h3n,h4,h4n]
    ·have h3n:fl<(dw.length:Int):=by omega
     simp[ZqM,h1,h2,h2n,h3,h3n]
   ·have h2n:(l.length:Int)<dn.length:=by omega
    simp[ZqM,h1,h2,h2n]
  ·simp[ZqM,h1])
def k39:Ctr:=⟨39,0,fun _ a=>match a with |[.agg (.gen [.list (.big .str ms), .list (.big (.agg [.str, .int .i64]) ks), .list (.big (.agg [.str, .int .i64, .int .i64, .int .i64, .int .i64]) rs), .list (.big (.agg [.int .i64, .int .i64, .int .i64]) l), .int .i64 wn, .int .i64 fl]), .agg (.gen [.int .i64 at0, .int .i64 mo, .list (.big (.agg [.int .i64, .int .i64]) dn), .bool ha, .int .i64 ba, .bool to, .list (.ints .i64 dw), .list (.big (.agg [.int .i64, .bool]) up)])]=>some (decide (upE ms ks rs l wn fl=0∧dn.length≤1000000∧dw.length≤1000000∧up.length≤1000000), .int .i64 (stE ks rs l fl at0 mo dn ha ba to dw up),none) |_=>none⟩
theorem ZF8:k39.OK Tryz.prog:=fun pa args r fr h=>by
 simp only[k39]at h
 split at h
 ·simp only[zS,zP,decide_eq_true_eq]at h
  obtain⟨h0,rfl,rfl⟩:=h
  exact Zqh _ _ _ _ _ _ _ _ _ _ _ _ _ _ h0
 ·cases h
def Bl:List Ctr:=[k39]++Bk
theorem ZKJ:ZaF Tryz.prog Bl:=⟨ZF8,Zmd⟩
end Go.Proofs.YtkeoeooghhjibaaGreatDoor
namespace Go.Proofs.YtkeoeooghhjibaaGreatDoor
variable {A:Ar}{K:KT}{F:FT}{M:MT}
theorem ZmC{P:Program}{f:FuncId}{args args':zA}{r:AV}{fr:Option Fresh}(h:Zan P f args r fr)(hw:WkA args' args):Zan P f args' r fr:=fun w okA L vs hargs hok hG=>
 h w okA L vs ⟨by rw[←hw.spec.1];exact hargs.1,fun j y v hy hv=>by
  have hj:j<args'.length:=by rw[hw.spec.1];exact(List.getElem?_eq_some_iff.1 hy).1
  exact(hw.spec.2 j _ y (List.getElem?_eq_getElem hj) hy).rel (hargs.2 j _ v (List.getElem?_eq_getElem hj) hv)⟩ hok hG
theorem ZBl(at0 mo:Int)(dn:zA)(ha:Bool)(ba:Int)(to:Bool)(dw:zI)(up:zA)(at1 mo1:Int)(ha1:Bool)(ba1:Int)(to1:Bool)(hl:dn.length≤1000000∧dw.length≤1000000∧up.length≤1000000):Zan Tryz.prog 21 [vS at0 mo dn ha ba to dw up, .agg (.gen [.int .i64 at1, .int .i64 mo1, .nils, .bool ha1, .int .i64 ba1, .bool to1, .nils, .nils])] (.bool (ZhJ at0 mo dn ha ba to dw up at1 mo1 [] ha1 ba1 to1 [] [])) none:=
 ZmC (ZlL at0 mo dn ha ba to dw up at1 mo1 [] ha1 ba1 to1 [] [] hl) ⟨.same _,Wk.agg' ⟨.same _, .same _, .nil _ rfl, .same _, .same _, .same _, .nil _ rfl, .nil _ rfl,trivial⟩,trivial⟩
theorem ZHU(a b c d e:Int):([AV.int .i64 a,AV.int .i64 b,AV.int .i64 c,AV.int .i64 d,AV.int .i64 e].all fun x=>AV.bx x&&Nat.beq (Zac std x) 1)=true:=rfl
section
variable {C:Ctx}(hC:C.P=Tryz.prog)(ms ks rs l:zA)(wn fl:Int)(at0 mo:Int)(dn:zA)(ha:Bool)(ba:Int)(to:Bool)(dw:zI)(up:zA)
include hC
end
def Zny(mo n3:Int)(ha:Bool)(d ll ba:Int)(to:Bool):Int:=if mo=n3 then(if ha=true∧¬d<ll then 21 else if Zab ba 0 d=true then(if to=true∧¬(ha=true∧ba=d)then 3 else 0)else 2)else 3
section
variable {C:Ctx}(hC:C.P=Tryz.prog)(ms ks rs l:zA)(wn fl:Int)(at0 mo:Int)(dn:zA)(ha:Bool)(ba:Int)(to:Bool)(dw:zI)(up:zA)
include hC
end
theorem Zou(ks l:zA)(mo:Int)(dn:zA)(ha:Bool)(ba:Int)(to:Bool)(dw:zI)(up:zA)(h:dn.length≤l.length):(if Zny mo (m0A ks l dn.length) ha dn.length l.length ba to=0 then(if ZbD l.length dw=0 then upR dn.length ha up else ZbD l.length dw)else Zny mo (m0A ks l dn.length) ha dn.length l.length ba to)=Zff ks l mo dn ha ba to dw up:=by
 unfold Zny Zff
 by_cases g1:mo=m0A ks l dn.length
 ·by_cases g2:ha=true∧dn.length=l.length
  ·have g2':ha=true∧¬(dn.length:Int)<l.length:=⟨g2.1,by omega⟩
   simp only[if_pos g1,if_pos g2,if_pos g2'];rfl
  ·have g2':¬(ha=true∧¬(dn.length:Int)<l.length):=fun hh=>g2 ⟨hh.1,by omega⟩
   by_cases g3:Zab ba 0 dn.length=true
   ·by_cases g4:to=true∧¬(ha=true∧ba=dn.length)
    ·simp only[if_pos g1,if_neg g2,if_neg g2',if_pos g3,if_pos g4];rfl
    ·simp only[if_pos g1,if_neg g2,if_neg g2',if_pos g3,if_neg g4,if_true]
   ·simp only[if_pos g1,if_neg g2,if_neg g2',if_neg g3];rfl
 ·simp only[if_neg g1];rfl
section
variable {C:Ctx}(hC:C.P=Tryz.prog)(ms ks rs l:zA)(wn fl:Int)(at0 mo:Int)(dn:zA)(ha:Bool)(ba:Int)(to:Bool)(dw:zI)(up:zA)
include hC
end
def k21z:Ctr:=⟨21,0,fun _ a=>match a with |[.agg (.gen [.int .i64 at0, .int .i64 mo, .list (.big (.agg [.int .i64, .int .i64]) dn), .bool ha, .int .i64 ba, .bool to, .list (.ints .i64 dw), .list (.big (.agg [.int .i64, .bool]) up)]), .agg (.gen [.int .i64 at1, .int .i64 mo1, .nils, .bool ha1, .int .i64 ba1, .bool to1, .nils, .nils])]=>some (decide (dn.length≤1000000∧dw.length≤1000000∧up.length≤1000000), .bool (ZhJ at0 mo dn ha ba to dw up at1 mo1 [] ha1 ba1 to1 [] []),none) |_=>none⟩
theorem ZAR:k21z.OK Tryz.prog:=fun pa args r fr h=>by
 simp only[k21z]at h
 split at h
 ·simp only[zS,zP,decide_eq_true_eq]at h
  obtain⟨h0,rfl,rfl⟩:=h
  exact ZBl _ _ _ _ _ _ _ _ _ _ _ _ _ h0
 ·cases h
def Bm:List Ctr:=[k21z]++Bl
theorem ZIn:ZaF Tryz.prog Bm:=⟨ZAR,ZKJ⟩
end Go.Proofs.YtkeoeooghhjibaaGreatDoor
namespace Go.Proofs.YtkeoeooghhjibaaGreatDoor
variable {A:Ar}{K:KT}{F:FT}{M:MT}
def k81o:Ctr:=⟨81,0,fun _ a=>match a with |[.list (.ints .i64 xs)]=>some (decide (xs.length≤1000000), .row 0 0,some ⟨3,1, .ints .i64 xs⟩) |_=>none⟩
theorem ZBm:k81o.OK Tryz.prog:=fun pa args r fr h=>by
 simp only[k81o]at h
 split at h
 ·simp only[zS,zP,decide_eq_true_eq]at h
  obtain⟨h0,rfl,rfl⟩:=h
  exact Zh0 _ h0
 ·cases h
def k83:Ctr:=⟨83,0,fun _ a=>match a with |[]=>some (true,(.agg (.gen [(.str [112,97,115,115]),(.int .i64 1),(.int .i64 1000000000000),(.fn 127 []),(.str [115,101,110,100]),(.int .i64 0),(.int .i64 11),(.fn 128 []),(.str [97,114,114,105,118,101]),(.int .i64 0),(.int .i64 5),(.fn 129 []),(.str [104,101,97,114]),(.int .i64 0),(.int .i64 5),(.fn 130 []),(.str [108,111,115,101]),(.int .i64 0),(.int .i64 5),(.fn 131 []),(.str [100,114,111,112]),(.int .i64 0),(.int .i64 5),(.fn 132 []),(.str [114,101,112,101,97,116]),(.int .i64 0),(.int .i64 5),(.fn 133 []),(.str [114,101,115,116,97,114,116]),(.int .i64 0),(.int .i64 0),(.fn 134 []),(.str [114,101,98,111,111,116]),(.int .i64 0),(.int .i64 0),(.fn 135 [])])),none) |_=>none⟩
theorem ZGH:k83.OK Tryz.prog:=fun pa args r fr h=>by
 simp only[k83]at h
 split at h
 ·cases h
  exact ZcR
 ·cases h
def Bn:List Ctr:=[k81o,k83]++Bm
theorem Za4:ZaF Tryz.prog Bn:=⟨ZBm,⟨ZGH,ZIn⟩⟩
end Go.Proofs.YtkeoeooghhjibaaGreatDoor
