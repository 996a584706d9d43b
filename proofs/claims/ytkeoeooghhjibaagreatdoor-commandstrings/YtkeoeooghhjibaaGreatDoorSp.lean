/- Contracts as a list. No condition. -/
import Derived.Test.YtkeoeooghhjibaaGreatDoorPv
import Derived.KernelRfl
namespace Go.Proofs.YtkeoeooghhjibaaGreatDoor
def Zje(rs:List AV)(a b:Int)(xs:List Int)(k:Int):Nat→Nat→Nat
 |0,i=>i
 |m+1,i=>if Zst rs a b xs k i=true then i else Zje rs a b xs k m (i+1)
def Zge(rs:List AV)(a b:Int)(xs:List Int)(k:Int):Bool:=decide (Zje rs a b xs k rs.length 0=rs.length)
def Zn9(rs:List AV)(i:Nat):AV:=.eptr (.agg (.gen [.str (ZhL rs i), .int .i64 (ZaZ rs i 1), .int .i64 (ZaZ rs i 2), .int .i64 (ZaZ rs i 3), .int .i64 (ZaZ rs i 4)])) 0
def ZgE(rs:List AV)(a b:Int)(xs:List Int)(k:Int)(m i:Nat):AV:=if Zje rs a b xs k m i=i+m then .val (.pointer none)else Zn9 rs (Zje rs a b xs k m i)
theorem Zml(rs:List AV)(a b:Int)(xs:List Int)(k:Int)(m i:Nat):ZgE rs a b xs k (m+1) i=if Zst rs a b xs k i=true then Zn9 rs i else ZgE rs a b xs k m (i+1):=by
 unfold ZgE
 simp only[Zje]
 split
 ·rw[if_neg (by omega)]
 ·rw[show i+(m+1)=i+1+m by omega]
theorem Zf6{C:Ctx}(hC:C.P=Tryz.prog)(ms ks rs:List AV)(a b:Int)(xs:List Int)(q:Int)(hg:Zdf rs b xs=true):∀m k:Nat,k+m=rs.length→Ev C (ZdZ ms ks rs a b xs q rs.length k) (Zdc ms ks rs a b xs q rs.length k) (Zew 91 (ZgE rs a b xs q m k) none)
 |0,k,hk=>tgo hC Zoz Zho (by simp[Zex,show ¬(k:Int)<rs.length by omega,ZgE,Zje])
 |m+1,k,hk=>by
  have hlt:(k:Int)<rs.length:=by omega
  have hlt2:k<rs.length:=by omega
  have e0:((rs.getD k .top).cellAt 0).toS=ZhL rs k:=rfl
  have e1:((rs.getD k .top).cellAt 1).toI=ZaZ rs k 1:=rfl
  have e2:((rs.getD k .top).cellAt 2).toI=ZaZ rs k 2:=rfl
  have e3:((rs.getD k .top).cellAt 3).toI=ZaZ rs k 3:=rfl
  have e4:((rs.getD k .top).cellAt 4).toI=ZaZ rs k 4:=rfl
  have ih:=Zf6 hC ms ks rs a b xs q hg m (k+1) (by omega)
  refine tgo hC Zoz Zho ?_
  simp[-List.getD_eq_getElem?_getD,Zex,e0,e1,e2,e3,e4,hlt,hlt2]
  obtain⟨V,hV⟩:∃V,V=ZgE rs a b xs q (m+1) k:=⟨_,rfl⟩
  rw[←hV]
  rw[Zml]at hV
  simp only[Zst,Zn9,decide_eq_true_eq]at hV
  have g:=ZoD hg hlt2
  clear e0 e1 e2 e3 e4 hg
  generalize ZhL rs k=nm at*
  generalize ZaZ rs k 1=f1 at*
  generalize ZaZ rs k 2=f2 at*
  generalize ZaZ rs k 3=f3 at*
  generalize ZaZ rs k 4=f4 at*
  generalize xs.getD f3.toNat 0=t at*
  have r3: -9223372036854775808≤(k:Int)+1∧(k:Int)+1≤9223372036854775807:=by omega
  have r1:f3≠ -1→(0≤f3∧f3.toNat<xs.length)∧(-9223372036854775808≤b-t∧b-t≤9223372036854775807):=by omega
  have ih':Ev C (ZdZ ms ks rs a b xs q rs.length (k+1)) (Zdc ms ks rs a b xs q rs.length (k+1)) (Zew 91 (ZgE rs a b xs q m (k+1)) none):=ih
  clear hk hlt hlt2 g ih
  by_cases h1:f1=q<;>by_cases h2:f2= -1<;>by_cases h3:f2=a<;>by_cases h4:f3= -1<;>by_cases h5:t= -1<;>by_cases h6:b-t<f4<;>simp_all<;>(intro h7;omega)
theorem Znj(ms ks rs:List AV)(a b:Int)(xs:List Int)(q:Int)(hg:Zdf rs b xs=true):Zan Tryz.prog 91 [.eptr (.agg (.gen [.list (.big .str ms), .list (.big (.agg [.str, .int .i64]) ks), .list (.big (.agg [.str, .int .i64, .int .i64, .int .i64, .int .i64]) rs), .int .i64 a, .int .i64 b, .list (.ints .i64 xs)])) 0, .int .i64 q] (ZgE rs a b xs q rs.length 0) none:=
 start (ZsX ms ks rs a b xs q) fun C hC=>tgo hC Zoz Zxe (by
  have:=Zf6 hC ms ks rs a b xs q hg rs.length 0 (by omega)
  simpa[ZtK]using this)
def Zw1(c:Bool)(rs:List AV)(a b:Int)(xs:List Int)(q:Int):AV:=match c with |true=>.val (.pointer none) |false=>Zn9 rs (Zje rs a b xs q rs.length 0)
theorem ZsY{c:Bool}{rs:List AV}{a b:Int}{xs:List Int}{q:Int}(h:Zge rs a b xs q=c):Zw1 c rs a b xs q=ZgE rs a b xs q rs.length 0:=by
 subst h
 unfold Zw1 ZgE Zge
 by_cases h:Zje rs a b xs q rs.length 0=rs.length
 ·rw[decide_eq_true h,if_pos (by omega)]
 ·rw[decide_eq_false h,if_neg (by omega)]
def k91b:Ctr:=⟨91,1,fun pa a=>match pa with
 |[]=>none
 |c::_=>(match a with
  |[.eptr (.agg (.gen [.list (.big .str _), .list (.big (.agg [.str, .int .i64]) _), .list (.big (.agg [.str, .int .i64, .int .i64, .int .i64, .int .i64]) rs), .int .i64 a, .int .i64 b, .list (.ints .i64 xs)])) 0, .int .i64 q]=>some (decide (Zdf rs b xs=true∧Zge rs a b xs q=c),Zw1 c rs a b xs q,none)
  |_=>none)⟩
theorem ZrT:k91b.OK Tryz.prog:=fun pa args r fr h=>by
 simp only[k91b]at h
 split at h
 ·cases h
 ·split at h
  ·simp only[Option.some.injEq,Prod.mk.injEq,decide_eq_true_eq]at h
   obtain⟨⟨h0,h1⟩,rfl,rfl⟩:=h
   rw[ZsY h1]
   exact Znj _ _ _ _ _ _ _ h0
  ·cases h
def Bc0:List Ctr:=[k91b]++Bb
theorem Zva:Zaq Tryz.prog Bc0:=⟨ZrT,Zoz⟩
def Bc:List Ctr:=[]++Bc0
theorem Ztt:Zaq Tryz.prog Bc:=Zva
end Go.Proofs.YtkeoeooghhjibaaGreatDoor
/- Paths of functions, printed by the explorer (Gx). No condition. -/
namespace Go.Proofs.YtkeoeooghhjibaaGreatDoor
set_option maxRecDepth 100000
set_option linter.unusedVariables false
def Zp5(ms ks rs:List AV)(a t:Int)(xs:List Int)(c d e:Int):AFrame:={ fn:=123,N:=24,env:=[(0,AV.eptr (AV.agg (Row.gen [.list (Row.big .str ms), .list (Row.big (.agg [.str, .int .i64]) ks), .list (Row.big (.agg [.str, .int .i64, .int .i64, .int .i64, .int .i64]) rs), .int .i64 a, .int .i64 t, .list (.ints .i64 xs)])) 0),(1,AV.agg (Row.gen [.int .i64 c, .int .i64 d, .int .i64 e]))],todo:=[.code a123.code],defs:=[],rnd:=none,ret:=false,res:=[ARes.tmp 4] }
def ZxU(ms ks rs:List AV)(a t:Int)(xs:List Int)(c d e:Int):List AFrame:=[(Zp5 ms ks rs a t xs c d e)]
theorem Zpl(ms ks rs:List AV)(a t:Int)(xs:List Int)(c d e:Int):Zaz tab 123 [AV.eptr (AV.agg (Row.gen [.list (Row.big .str ms), .list (Row.big (.agg [.str, .int .i64]) ks), .list (Row.big (.agg [.str, .int .i64, .int .i64, .int .i64, .int .i64]) rs), .int .i64 a, .int .i64 t, .list (.ints .i64 xs)])) 0,AV.agg (Row.gen [.int .i64 c, .int .i64 d, .int .i64 e])]=some (Zp5 ms ks rs a t xs c d e):=rfl
def ZnI(A:Ar)(K:KT)(F:FT)(ms ks rs:List AV)(a t:Int)(xs:List Int)(c d e:Int):Prop:=qB [decide (Zdf rs t xs=true∧Zge rs a t xs c=true),Zae t d e] (F (AV.bool true) (none)) (qB [decide (Zdf rs t xs=true∧Zge rs a t xs c=false),Zae t d e] (F (AV.bool false) (none)) (rB [!Zae t d e] (F (AV.bool false) (none))))
theorem Zuq{A:Ar}{K:KT}{F:FT}{M:MT}{ms ks rs:List AV}{a t:Int}{xs:List Int}{c d e:Int} :ZaE A tab Bc 123 K F M (.run 6 (.alt [true,true] (.run 2 (.fn)) (.alt [true,false] (.run 2 (.fn)) (.fy (.run 2 (.fn)))))) (ZxU ms ks rs a t xs c d e) []=ZnI A K F ms ks rs a t xs c d e:=by kernel_rfl
end Go.Proofs.YtkeoeooghhjibaaGreatDoor
/- Contracts as a list. No condition. -/
namespace Go.Proofs.YtkeoeooghhjibaaGreatDoor
def Zxn(rs:List AV)(a t:Int)(xs:List Int)(c d e:Int):Bool:=Zae t d e&&Zge rs a t xs c
theorem Znw(ms ks rs:List AV)(a t:Int)(xs:List Int)(c d e:Int)(h:Zae t d e=false∨Zdf rs t xs=true):Zan Tryz.prog 123 [.eptr (.agg (.gen [.list (.big .str ms), .list (.big (.agg [.str, .int .i64]) ks), .list (.big (.agg [.str, .int .i64, .int .i64, .int .i64, .int .i64]) rs), .int .i64 a, .int .i64 t, .list (.ints .i64 xs)])) 0, .agg (.gen [.int .i64 c, .int .i64 d, .int .i64 e])] (.bool (Zxn rs a t xs c d e)) none:=
 start (Zpl ms ks rs a t xs c d e) fun C hC=>tgo hC Ztt Zuq (by
  unfold Zxn
  cases h1:Zae t d e
  ·simp[ZnI,h1]
  ·have hg:Zdf rs t xs=true:=by simpa[h1]using h
   cases h2:Zge rs a t xs c<;>simp[ZnI,h1,h2,hg])
def k123:Ctr:=⟨123,0,fun _ a=>match a with |[.eptr (.agg (.gen [.list (.big .str _), .list (.big (.agg [.str, .int .i64]) _), .list (.big (.agg [.str, .int .i64, .int .i64, .int .i64, .int .i64]) rs), .int .i64 a, .int .i64 t, .list (.ints .i64 xs)])) 0, .agg (.gen [.int .i64 c, .int .i64 d, .int .i64 e])]=>some (decide (Zae t d e=false∨Zdf rs t xs=true), .bool (Zxn rs a t xs c d e),none) |_=>none⟩
theorem Zsm:k123.OK Tryz.prog:=fun pa args r fr h=>by
 simp only[k123]at h
 split at h
 ·simp only[Option.some.injEq,Prod.mk.injEq,decide_eq_true_eq]at h
  obtain⟨h0,rfl,rfl⟩:=h
  exact Znw _ _ _ _ _ _ _ _ _ h0
 ·cases h
def Bd:List Ctr:=[k123]++Bc
theorem Zyd:Zaq Tryz.prog Bd:=⟨Zsm,Ztt⟩
end Go.Proofs.YtkeoeooghhjibaaGreatDoor
/- Contracts as a list. No condition. -/
namespace Go.Proofs.YtkeoeooghhjibaaGreatDoor
structure OkF (ms ks rs l:List AV):Prop where
 model:ZtR ms ks rs=0
 ks1:1≤ks.length∧ks.length≤8
 rs1:rs.length≤10
 l1:0<l.length∧l.length≤12
 act:∀i<l.length,(0≤ZaZ l i 0∧ZaZ l i 0<ks.length)∧(0≤ZaZ l i 1∧ZaZ l i 1≤1000000000000)∧(0≤ZaZ l i 2∧ZaZ l i 2≤1000000000000)∧ZaZ l i 1≤ZaZ l i 2
 rule:∀i<rs.length,(0≤ZaZ rs i 1∧ZaZ rs i 1<ks.length)∧(-1≤ZaZ rs i 3∧ZaZ rs i 3<ks.length)∧(1≤ZaZ rs i 4∧ZaZ rs i 4≤1000000)
 name:∀i<rs.length,Zsj (ZhL rs i)=true
def Be:List Ctr:=Bd
theorem Zyb:Zaq Tryz.prog Be:=Zyd
end Go.Proofs.YtkeoeooghhjibaaGreatDoor
/- Contracts as a list. No condition. -/
namespace Go.Proofs.YtkeoeooghhjibaaGreatDoor
structure OkT (ks:List AV) (t:Int) (xs:List Int):Prop where
 len:xs.length=ks.length
 all:∀x∈xs, -1≤x∧x≤t
 lo:0≤t
 hi:t≤1000000000000
theorem OkT.at{ks:List AV}{t:Int}{xs:List Int}(h:OkT ks t xs){k:Nat}(hk:k<xs.length): -1≤xs.getD k 0∧xs.getD k 0≤t:=by
 refine h.all _ ?_
 rw[List.getD_eq_getElem?_getD,List.getElem?_eq_getElem hk];exact List.getElem_mem hk
theorem OkT.set{ks:List AV}{t t':Int}{xs:List Int}(h:OkT ks t xs)(h1:t≤t')(h2:t'≤1000000000000)(k:Nat):OkT ks t' (xs.set k t'):=by
 refine⟨by simpa using h.len,fun x hx=>?_,by have:=h.lo;omega,h2⟩
 rcases List.mem_or_eq_of_mem_set hx with hx |rfl
 ·have:=h.all x hx;omega
 ·have:=h.lo;omega
theorem OkT.forb{ms ks rs l:List AV}(hf:OkF ms ks rs l){t t':Int}{xs:List Int}(h:OkT ks t xs)(h1:t≤t')(h2:t'≤1000000000000):Zdf rs t' xs=true:=by
 simp only[Zdf,Bool.and_eq_true,List.all_eq_true,decide_eq_true_eq,List.mem_range]
 refine⟨⟨fun i hi=>?_,fun x hx=>?_⟩,by have:=h.lo;omega,h2,by have:=hf.rs1;omega⟩
 ·have:=(hf.rule i hi).2.1;have:=h.len;omega
 ·have:=h.all x hx;omega
section
variable {C:Ctx}(hC:C.P=Tryz.prog)(ms ks rs l:List AV)(hf:OkF ms ks rs l)
include hC hf
end
theorem ZAW{ms ks rs l:List AV}(_:OkF ms ks rs l):OkT ks 0 (List.replicate ks.length (-1)):=⟨by simp,fun x hx=>by rw[List.eq_of_mem_replicate hx];omega,by omega,by omega⟩
def Bf:List Ctr:=Be
theorem ZwW:Zaq Tryz.prog Bf:=Zyb
end Go.Proofs.YtkeoeooghhjibaaGreatDoor
/- Contracts as a list. No condition. -/
namespace Go.Proofs.YtkeoeooghhjibaaGreatDoor
def ZDi(rs:List AV)(b:Int)(xs:List Int)(d e:Int):Bool:=Zdf rs b xs&&((List.range rs.length).all fun i=>decide (1≤ZaZ rs i 4∧ZaZ rs i 4≤1000000∧ZhL rs i≠[]))&&decide (0≤d∧d≤1000000000000∧e≤1000000000000)
section
variable {C:Ctx}(hC:C.P=Tryz.prog)(ms ks rs:List AV)(a b:Int)(xs:List Int)(c d e:Int)(hg:ZDi rs b xs d e=true)
include hC hg
end
def Bg:List Ctr:=Bf
theorem Zyl:Zaq Tryz.prog Bg:=ZwW
end Go.Proofs.YtkeoeooghhjibaaGreatDoor
/- Contracts as a list. No condition. -/
namespace Go.Proofs.YtkeoeooghhjibaaGreatDoor
def tfG(ks rs l:List AV)(b:Int)(xs:List Int):Bool:=Zdf rs b xs&&((List.range rs.length).all fun i=>decide (1≤ZaZ rs i 4∧ZaZ rs i 4≤1000000∧ZhL rs i≠[]))&&((List.range l.length).all fun i=>decide ((0≤ZaZ l i 0∧ZaZ l i 0<ks.length)∧(0≤ZaZ l i 1∧ZaZ l i 1≤1000000000000)∧ZaZ l i 2≤1000000000000))&&decide (xs.length=ks.length∧xs.length≤1000000∧l.length≤1000000)
structure OkX (ks rs l:List AV) (b:Int) (xs:List Int):Prop where
 forb:Zdf rs b xs=true
 rule:∀i<rs.length,1≤ZaZ rs i 4∧ZaZ rs i 4≤1000000∧ZhL rs i≠[]
 act:∀i<l.length,(0≤ZaZ l i 0∧ZaZ l i 0<ks.length)∧(0≤ZaZ l i 1∧ZaZ l i 1≤1000000000000)∧ZaZ l i 2≤1000000000000
 len:xs.length=ks.length∧xs.length≤1000000∧l.length≤1000000
theorem tfG_iff{ks rs l:List AV}{b:Int}{xs:List Int} :tfG ks rs l b xs=true↔OkX ks rs l b xs:=by
 simp only[tfG,Bool.and_eq_true,List.all_eq_true,decide_eq_true_eq,List.mem_range]
 exact⟨fun h=>⟨h.1.1.1,h.1.1.2,h.1.2,h.2⟩,fun h=>⟨⟨⟨h.forb,h.rule⟩,h.act⟩,h.len⟩⟩
theorem OkX.next{ks rs l:List AV}{b t:Int}{xs:List Int}(h:OkX ks rs l b xs)(h1:b≤t)(h2:t≤1000000000000)(k:Nat):OkX ks rs l t (xs.set k t):=by
 refine⟨?_,h.rule,h.act,by simpa using h.len⟩
 have hf:=h.forb
 simp only[Zdf,Bool.and_eq_true,List.all_eq_true,decide_eq_true_eq,List.mem_range]at hf⊢
 refine⟨⟨fun i hi=>by simpa using hf.1.1 i hi,fun x hx=>?_⟩,by omega,h2,hf.2.2.2⟩
 rcases List.mem_or_eq_of_mem_set hx with hx |rfl
 ·have:=hf.1.2 x hx;omega
 ·omega
section
variable {C:Ctx}(hC:C.P=Tryz.prog)(ms ks rs l:List AV)
include hC
end
def Bh:List Ctr:=Bg
theorem ZwM:Zaq Tryz.prog Bh:=Zyl
end Go.Proofs.YtkeoeooghhjibaaGreatDoor
/- Contracts as a list. No condition. -/
namespace Go.Proofs.YtkeoeooghhjibaaGreatDoor
theorem ZsV{s:List UInt8}(h:Zsj s=true):s≠[]:=fun e=>by subst e;revert h;decide
theorem OkF.tf{ms ks rs l:List AV}(hf:OkF ms ks rs l):tfG ks rs l 0 (List.replicate ks.length (-1))=true:=by
 have hT:=ZAW hf
 refine tfG_iff.2 ⟨hT.forb (ms:=ms) (l:=l) hf (Int.le_refl _) (by omega),fun i hi=>?_,fun i hi=>?_,?_⟩
 ·have:=(hf.rule i hi).2.2
  exact⟨this.1,this.2,ZsV (hf.name i hi)⟩
 ·have:=hf.act i hi;omega
 ·have:=hf.ks1;have:=hf.l1;simp;omega
def Bi:List Ctr:=Bh
theorem Zyr:Zaq Tryz.prog Bi:=ZwM
end Go.Proofs.YtkeoeooghhjibaaGreatDoor
/- Contracts as a list. No condition. -/
namespace Go.Proofs.YtkeoeooghhjibaaGreatDoor
def Bj:List Ctr:=Bi
theorem Zxq:Zaq Tryz.prog Bj:=Zyr
end Go.Proofs.YtkeoeooghhjibaaGreatDoor
/- Contracts as a list. No condition. -/
namespace Go.Proofs.YtkeoeooghhjibaaGreatDoor
def Bk:List Ctr:=Bj
theorem ZwL:Zaq Tryz.prog Bk:=Zxq
end Go.Proofs.YtkeoeooghhjibaaGreatDoor
/- Contracts as a list. No condition. -/
namespace Go.Proofs.YtkeoeooghhjibaaGreatDoor
section
variable {C:Ctx}(hC:C.P=Tryz.prog)(ms ks rs l:List AV)(wn fl:Int)(at0 mo:Int)(dn:List AV)(ha:Bool)(ba:Int)(to:Bool)(dw:List Int)(up:List AV)
include hC
end
def Bl:List Ctr:=Bk
theorem ZwR:Zaq Tryz.prog Bl:=ZwL
end Go.Proofs.YtkeoeooghhjibaaGreatDoor
/- Contracts as a list. No condition. -/
namespace Go.Proofs.YtkeoeooghhjibaaGreatDoor
section
variable {C:Ctx}(hC:C.P=Tryz.prog)(ms ks rs l:List AV)(wn fl:Int)(at0 mo:Int)(dn:List AV)(ha:Bool)(ba:Int)(to:Bool)(dw:List Int)(up:List AV)
include hC
end
section
variable {C:Ctx}(hC:C.P=Tryz.prog)(ms ks rs l:List AV)(wn fl:Int)(at0 mo:Int)(dn:List AV)(ha:Bool)(ba:Int)(to:Bool)(dw:List Int)(up:List AV)
include hC
end
section
variable {C:Ctx}(hC:C.P=Tryz.prog)(ms ks rs l:List AV)(wn fl:Int)(at0 mo:Int)(dn:List AV)(ha:Bool)(ba:Int)(to:Bool)(dw:List Int)(up:List AV)
include hC
end
def Bm:List Ctr:=Bl
theorem Zx9:Zaq Tryz.prog Bm:=ZwR
end Go.Proofs.YtkeoeooghhjibaaGreatDoor
/- Contracts as a list. No condition. -/
namespace Go.Proofs.YtkeoeooghhjibaaGreatDoor
def k83:Ctr:=⟨83,0,fun _ a=>match a with |[]=>some (true,(.agg (.gen [(.str [112,97,115,115]),(.int .i64 1),(.int .i64 1000000000000),(.fn 127 []),(.str [115,101,110,100]),(.int .i64 0),(.int .i64 11),(.fn 128 []),(.str [97,114,114,105,118,101]),(.int .i64 0),(.int .i64 5),(.fn 129 []),(.str [104,101,97,114]),(.int .i64 0),(.int .i64 5),(.fn 130 []),(.str [108,111,115,101]),(.int .i64 0),(.int .i64 5),(.fn 131 []),(.str [100,114,111,112]),(.int .i64 0),(.int .i64 5),(.fn 132 []),(.str [114,101,112,101,97,116]),(.int .i64 0),(.int .i64 5),(.fn 133 []),(.str [114,101,115,116,97,114,116]),(.int .i64 0),(.int .i64 0),(.fn 134 []),(.str [114,101,98,111,111,116]),(.int .i64 0),(.int .i64 0),(.fn 135 [])])),none) |_=>none⟩
theorem ZuZ:k83.OK Tryz.prog:=fun pa args r fr h=>by
 simp only[k83]at h
 split at h
 ·cases h
  exact ZbT
 ·cases h
def Bn:List Ctr:=[k83]++Bm
theorem ZxF:Zaq Tryz.prog Bn:=⟨ZuZ,Zx9⟩
end Go.Proofs.YtkeoeooghhjibaaGreatDoor
/- Contracts as a list. No condition. -/
namespace Go.Proofs.YtkeoeooghhjibaaGreatDoor
def Zbx(n:Int):Bool:=decide (-9223372036854775808≤n∧n≤9223372036854775807)
theorem i64B_iff{n:Int} :Zbx n=true↔ -9223372036854775808≤n∧n≤9223372036854775807:=by simp[Zbx]
def k138:Ctr:=⟨138,0,fun _ a=>match a with |[.int .i64 n]=>some (decide (Zbx n=true), .str (Lib.itoa n),none) |_=>none⟩
theorem Zq5:k138.OK Tryz.prog:=fun pa args r fr h=>by
 simp only[k138]at h
 split at h
 ·simp only[Option.some.injEq,Prod.mk.injEq,decide_eq_true_eq]at h
  obtain⟨h0,rfl,rfl⟩:=h
  exact Zl0 _ (i64B_iff.1 h0)
 ·cases h
def k108:Ctr:=⟨108,0,fun _ a=>match a with |[.str s, .str p]=>some (decide (s.length≤1000000), .tup [.str (Lib.cut s p).1, .str (Lib.cut s p).2.1, .bool (Lib.cut s p).2.2],none) |_=>none⟩
theorem Zs0:k108.OK Tryz.prog:=fun pa args r fr h=>by
 simp only[k108]at h
 split at h
 ·simp only[Option.some.injEq,Prod.mk.injEq,decide_eq_true_eq]at h
  obtain⟨h0,rfl,rfl⟩:=h
  exact Zm8 _ _ h0
 ·cases h
def k106:Ctr:=⟨106,0,fun _ a=>match a with |[.str s, .str p]=>some (decide (s.length≤1000000∧1≤p.length), .list (.big .str ((ZaY s p).map AV.str)),ZyL) |_=>none⟩
theorem ZrC:k106.OK Tryz.prog:=fun pa args r fr h=>by
 simp only[k106]at h
 split at h
 ·simp only[Option.some.injEq,Prod.mk.injEq,decide_eq_true_eq]at h
  obtain⟨h0,rfl,rfl⟩:=h
  exact Zka _ _ h0
 ·cases h
def k113:Ctr:=⟨113,0,fun _ a=>match a with |[.list (.big .str xs), .str p]=>some (decide (xs.length≤1000000∧(Lib.join (xs.map AV.toS) p).length≤1000000), .str (Lib.join (xs.map AV.toS) p),none) |_=>none⟩
theorem ZsM:k113.OK Tryz.prog:=fun pa args r fr h=>by
 simp only[k113]at h
 split at h
 ·simp only[Option.some.injEq,Prod.mk.injEq,decide_eq_true_eq]at h
  obtain⟨h0,rfl,rfl⟩:=h
  exact Zlo _ _ h0
 ·cases h
def k107:Ctr:=⟨107,0,fun _ a=>match a with |[.str s, .int .i64 d]=>some (decide (s.length≤1000000), .tup [.int .i64 (ZbK s), .bool (Zch s d)],none) |_=>none⟩
theorem Zri:k107.OK Tryz.prog:=fun pa args r fr h=>by
 simp only[k107]at h
 split at h
 ·simp only[Option.some.injEq,Prod.mk.injEq,decide_eq_true_eq]at h
  obtain⟨h0,rfl,rfl⟩:=h
  exact ZiC _ _ h0
 ·cases h
def Ls0:List Ctr:=[k138,k108,k106,k113,k107]++Bn
theorem Zbj:Zaq Tryz.prog Ls0:=⟨Zq5,⟨Zs0,⟨ZrC,⟨ZsM,⟨Zri,ZxF⟩⟩⟩⟩⟩
end Go.Proofs.YtkeoeooghhjibaaGreatDoor
/- Paths of functions, printed by the explorer (Gx). No condition. -/
namespace Go.Proofs.YtkeoeooghhjibaaGreatDoor
set_option maxRecDepth 100000
set_option linter.unusedVariables false
def ZpJ(xs:List Int):AFrame:={ fn:=105,N:=20,env:=[(0,AV.list (.ints .i64 xs))],todo:=[.code a105.code],defs:=[],rnd:=none,ret:=false,res:=[ARes.tmp 2] }
def Ztj(xs:List Int):List AFrame:=[(ZpJ xs)]
theorem Zpn(xs:List Int):Zaz tab 105 [AV.list (.ints .i64 xs)]=some (ZpJ xs):=rfl
def Zgz(xs:List Int)(n0:Int):List AFrame:=[{ fn:=105,N:=20,env:=[(3,AV.nils),(6,AV.list (.ints .i64 xs)),(7,AV.int .i64 n0),(8,AV.int .i64 0)],todo:=.code (ACode.gh [] ZnU)::ZpK,defs:=[],rnd:=none,ret:=false,res:=[ARes.tmp 2] }]
def ZeU(xs:List Int)(n0:Int):Zaa:=[]
abbrev ZiZ(xs:List Int)(n0:Int):List AFrame×Zaa:=(Zgz xs n0,ZeU xs n0)
def ZdD(xs:List Int)(n0 n1:Int)(x2:List AV):List AFrame:=[{ fn:=105,N:=20,env:=[(3,AV.row 105017 0),(6,AV.list (.ints .i64 xs)),(7,AV.int .i64 n0),(8,AV.int .i64 n1)],todo:=.code (ACode.gh [] ZnU)::ZpK,defs:=[],rnd:=none,ret:=false,res:=[ARes.tmp 2] }]
def ZcD(xs:List Int)(n0 n1:Int)(x2:List AV):Zaa:=[(105017,{ base:=0,blks:=[Blk.row 9 1 (Row.big .str x2)] })]
abbrev ZeY(xs:List Int)(n0 n1:Int)(x2:List AV):List AFrame×Zaa:=(ZdD xs n0 n1 x2,ZcD xs n0 n1 x2)
def Zp2(A:Ar)(K:KT)(F:FT)(xs:List Int):Prop:=K (ZiZ (xs) (A.int (A.len xs)))
theorem Zt7{A:Ar}{K:KT}{F:FT}{M:MT}{xs:List Int} :ZaE A tab Ls0 105 K F M (.run 18 (.hd)) (Ztj xs) []=Zp2 A K F xs:=by kernel_rfl
def Zcz(A:Ar)(K:KT)(F:FT)(xs:List Int)(n0:Int):Prop:=bB (A.lt 0 n0) (rB [A.inR .i64 (A.add 0 1),Zah (Nat.ble (A.lenA [AV.str (Go.Lib.itoa (A.nth xs (A.nat 0)))]) 4294967296) (Nat.blt 0 (A.lenA [AV.str (Go.Lib.itoa (A.nth xs (A.nat 0)))])),List.all [AV.str (Go.Lib.itoa (A.nth xs (A.nat 0)))] fun x=>AV.bx x&&Nat.beq (Zal A x) 1,decide (Zbx (A.nth xs (A.nat 0))=true),Zah (Zah (A.le 0 0) (Nat.blt (A.nat 0) (A.len xs))) true] (K (ZeY (xs) (n0) (A.add 0 1) ([AV.str (Go.Lib.itoa (A.nth xs (A.nat 0)))])))) (rB [A.eq (A.int 0) 0] (F (AV.str []) (none)))
theorem Zi2{A:Ar}{K:KT}{F:FT}{M:MT}{xs:List Int}{n0:Int} :ZaE A tab Ls0 105 K F M (.run 6 (.tf (.run 24 (.hd)) (.run 21 (.ty (.run 9 (.fn)))))) (Zgz xs n0) (ZeU xs n0)=Zcz A K F xs n0:=by kernel_rfl
def ZcN(A:Ar)(K:KT)(F:FT)(xs:List Int)(n0 n1:Int)(x2:List AV):Prop:=bB (A.lt n1 n0) (rB [A.inR .i64 (A.add n1 1),Nat.ble (A.lenA x2+A.lenA [AV.str (Go.Lib.itoa (A.nth xs (A.nat n1)))]) 4294967296,List.all [AV.str (Go.Lib.itoa (A.nth xs (A.nat n1)))] fun x=>AV.bx x&&Nat.beq (Zal A x) 1,decide (Zbx (A.nth xs (A.nat n1))=true),Zah (Zah (A.le 0 n1) (Nat.blt (A.nat n1) (A.len xs))) true] (K (ZeY (xs) (n0) (A.add n1 1) (A.appA x2 [AV.str (Go.Lib.itoa (A.nth xs (A.nat n1)))])))) (rB [decide (List.length x2≤1000000∧List.length (Go.Lib.join (List.map AV.toS x2) [32])≤1000000)] (F (AV.str (Go.Lib.join (List.map AV.toS x2) [32])) (none)))
theorem Ze0{A:Ar}{K:KT}{F:FT}{M:MT}{xs:List Int}{n0 n1:Int}{x2:List AV} :ZaE A tab Ls0 105 K F M (.run 6 (.tf (.run 24 (.hd)) (.run 8 (.fn)))) (ZdD xs n0 n1 x2) (ZcD xs n0 n1 x2)=ZcN A K F xs n0 n1 x2:=by kernel_rfl
def Zqf(s:List UInt8)(c:Int):AFrame:={ fn:=109,N:=34,env:=[(0,AV.str s),(1,AV.int .u8 c)],todo:=[.code a109.code],defs:=[],rnd:=none,ret:=false,res:=[ARes.tmp 4] }
def Zx0(s:List UInt8)(c:Int):List AFrame:=[(Zqf s c)]
theorem Zog(s:List UInt8)(c:Int):Zaz tab 109 [AV.str s,AV.int .u8 c]=some (Zqf s c):=rfl
def ZdB(s:List UInt8)(c n0:Int):List AFrame:=[{ fn:=109,N:=34,env:=[(0,AV.str s),(1,AV.int .u8 c),(5,AV.nils),(6,AV.int .i64 0),(7,AV.int .i64 n0)],todo:=.code (ACode.gh [] Zn0)::Zp3,defs:=[],rnd:=none,ret:=false,res:=[ARes.tmp 4] }]
def ZcK(s:List UInt8)(c n0:Int):Zaa:=[]
abbrev ZeX(s:List UInt8)(c n0:Int):List AFrame×Zaa:=(ZdB s c n0,ZcK s c n0)
def Zdn(s:List UInt8)(c n1 n2:Int)(x3:List AV):List AFrame:=[{ fn:=109,N:=34,env:=[(0,AV.str s),(1,AV.int .u8 c),(5,AV.row 109026 0),(6,AV.int .i64 n1),(7,AV.int .i64 n2)],todo:=.code (ACode.gh [] Zn0)::Zp3,defs:=[],rnd:=none,ret:=false,res:=[ARes.tmp 4] }]
def ZcV(s:List UInt8)(c n1 n2:Int)(x3:List AV):Zaa:=[(109026,{ base:=0,blks:=[Blk.row 9 1 (Row.big .str x3)] })]
abbrev Zcx(s:List UInt8)(c n1 n2:Int)(x3:List AV):List AFrame×Zaa:=(Zdn s c n1 n2 x3,ZcV s c n1 n2 x3)
def Zp9(A:Ar)(K:KT)(F:FT)(s:List UInt8)(c:Int):Prop:=K (ZeX (s) (c) (0))
theorem Zt0{A:Ar}{K:KT}{F:FT}{M:MT}{s:List UInt8}{c:Int} :ZaE A tab Ls0 109 K F M (.run 20 (.hd)) (Zx0 s c) []=Zp9 A K F s c:=by kernel_rfl
def ZbM(A:Ar)(K:KT)(F:FT)(s:List UInt8)(c n0:Int):Prop:=bB (A.lt n0 (A.int (A.lenS s))) (rB [Zah (A.le 0 n0) (Nat.blt (A.nat n0) (A.lenS s))] (bB (A.eq (A.nthS s (A.nat n0)) c) (rB [A.inR .i64 (A.add n0 1),A.inR .i64 (A.add n0 1),Zah (Nat.ble (A.lenA [AV.str (A.subS s (A.nat 0) (A.nat n0-A.nat 0))]) 4294967296) (Nat.blt 0 (A.lenA [AV.str (A.subS s (A.nat 0) (A.nat n0-A.nat 0))])),List.all [AV.str (A.subS s (A.nat 0) (A.nat n0-A.nat 0))] fun x=>AV.bx x&&Nat.beq (Zal A x) 1,Zah (Zah (A.le 0 0) (A.le 0 n0)) (Zah (Nat.ble (A.nat 0) (A.nat n0)) (Nat.ble (A.nat n0) (A.lenS s)))] (K (Zcx (s) (c) (A.add n0 1) (A.add n0 1) ([AV.str (A.subS s (A.nat 0) (A.nat n0-A.nat 0))])))) (rB [A.inR .i64 (A.add n0 1)] (K (ZeX (s) (c) (A.add n0 1)))))) (rB [Zah (Nat.ble (A.lenA [AV.str (A.subS s (A.nat 0) (A.lenS s-A.nat 0))]) 4294967296) (Nat.blt 0 (A.lenA [AV.str (A.subS s (A.nat 0) (A.lenS s-A.nat 0))])),List.all [AV.str (A.subS s (A.nat 0) (A.lenS s-A.nat 0))] fun x=>AV.bx x&&Nat.beq (Zal A x) 1,Zah (Zah (A.le 0 0) true) (Zah (Nat.ble (A.nat 0) (A.lenS s)) (Nat.ble (A.lenS s) (A.lenS s)))] (F (AV.row 0 0) (some { e:=9,sz:=1,r:=Row.big .str [AV.str (A.subS s (A.nat 0) (A.lenS s-A.nat 0))] })))
theorem ZeN{A:Ar}{K:KT}{F:FT}{M:MT}{s:List UInt8}{c n0:Int} :ZaE A tab Ls0 109 K F M (.run 9 (.tf (.run 11 (.tf (.run 25 (.hd)) (.run 9 (.hd)))) (.run 13 (.fn)))) (ZdB s c n0) (ZcK s c n0)=ZbM A K F s c n0:=by kernel_rfl
def ZbO(A:Ar)(K:KT)(F:FT)(s:List UInt8)(c n1 n2:Int)(x3:List AV):Prop:=bB (A.lt n2 (A.int (A.lenS s))) (rB [Zah (A.le 0 n2) (Nat.blt (A.nat n2) (A.lenS s))] (bB (A.eq (A.nthS s (A.nat n2)) c) (rB [A.inR .i64 (A.add n2 1),A.inR .i64 (A.add n2 1),Nat.ble (A.lenA x3+A.lenA [AV.str (A.subS s (A.nat n1) (A.nat n2-A.nat n1))]) 4294967296,List.all [AV.str (A.subS s (A.nat n1) (A.nat n2-A.nat n1))] fun x=>AV.bx x&&Nat.beq (Zal A x) 1,Zah (Zah (A.le 0 n1) (A.le 0 n2)) (Zah (Nat.ble (A.nat n1) (A.nat n2)) (Nat.ble (A.nat n2) (A.lenS s)))] (K (Zcx (s) (c) (A.add n2 1) (A.add n2 1) (A.appA x3 [AV.str (A.subS s (A.nat n1) (A.nat n2-A.nat n1))])))) (rB [A.inR .i64 (A.add n2 1)] (K (Zcx (s) (c) (n1) (A.add n2 1) (x3)))))) (rB [Nat.ble (A.lenA x3+A.lenA [AV.str (A.subS s (A.nat n1) (A.lenS s-A.nat n1))]) 4294967296,List.all [AV.str (A.subS s (A.nat n1) (A.lenS s-A.nat n1))] fun x=>AV.bx x&&Nat.beq (Zal A x) 1,Zah (Zah (A.le 0 n1) true) (Zah (Nat.ble (A.nat n1) (A.lenS s)) (Nat.ble (A.lenS s) (A.lenS s)))] (F (AV.row 0 0) (some { e:=9,sz:=1,r:=Row.big .str (A.appA x3 [AV.str (A.subS s (A.nat n1) (A.lenS s-A.nat n1))]) })))
theorem Ze7{A:Ar}{K:KT}{F:FT}{M:MT}{s:List UInt8}{c n1 n2:Int}{x3:List AV} :ZaE A tab Ls0 109 K F M (.run 9 (.tf (.run 11 (.tf (.run 25 (.hd)) (.run 9 (.hd)))) (.run 13 (.fn)))) (Zdn s c n1 n2 x3) (ZcV s c n1 n2 x3)=ZbO A K F s c n1 n2 x3:=by kernel_rfl
def Zp7(s:List UInt8)(d:Int):AFrame:={ fn:=110,N:=70,env:=[(0,AV.str s),(1,AV.int .i64 d)],todo:=[.code a110.code],defs:=[],rnd:=none,ret:=false,res:=[ARes.tmp 4,ARes.tmp 5] }
def Zyp(s:List UInt8)(d:Int):List AFrame:=[(Zp7 s d)]
theorem Zo8(s:List UInt8)(d:Int):Zaz tab 110 [AV.str s,AV.int .i64 d]=some (Zp7 s d):=rfl
def Zdu(s:List UInt8)(n0 n1 n2:Int):List AFrame:=[{ fn:=110,N:=70,env:=[(0,AV.str s),(6,AV.int .i64 n0),(7,AV.int .i64 n2),(8,AV.int .i64 n1)],todo:=.code (ACode.gh [] Zqb)::Zul,defs:=[],rnd:=none,ret:=false,res:=[ARes.tmp 4,ARes.tmp 5] }]
def ZcM(s:List UInt8)(n0 n1 n2:Int):Zaa:=[]
abbrev ZaT(s:List UInt8)(n0 n1 n2:Int):List AFrame×Zaa:=(Zdu s n0 n1 n2,ZcM s n0 n1 n2)
def ZpC(A:Ar)(K:KT)(F:FT)(s:List UInt8)(d:Int):Prop:=bB (A.lt 0 (A.int (A.lenS s))) (rB [Zah (A.le 0 0) (Nat.blt (A.nat 0) (A.lenS s))] (bB (A.eq (A.nthS s (A.nat 0)) 45) (bB (A.eq (A.int (A.lenS s)) 1) (F (AV.tup [AV.int .i64 0,AV.bool false]) (none)) (rB [A.inR .i64 (A.sub (A.int (A.lenS s)) 1)] (bB (A.lt d (A.sub (A.int (A.lenS s)) 1)) (F (AV.tup [AV.int .i64 0,AV.bool false]) (none)) (rB [Zah (A.le 0 1) (Nat.blt (A.nat 1) (A.lenS s))] (bB (A.eq (A.nthS s (A.nat 1)) 48) (bB (A.lt 1 (A.int (A.lenS s))) (F (AV.tup [AV.int .i64 0,AV.bool false]) (none)) (K (ZaT (s) (1) (1) (0)))) (K (ZaT (s) (1) (1) (0)))))))) (bB (A.eq (A.int (A.lenS s)) 0) (F (AV.tup [AV.int .i64 0,AV.bool false]) (none)) (rB [A.inR .i64 (A.sub (A.int (A.lenS s)) 0)] (bB (A.lt d (A.sub (A.int (A.lenS s)) 0)) (F (AV.tup [AV.int .i64 0,AV.bool false]) (none)) (rB [Zah (A.le 0 0) (Nat.blt (A.nat 0) (A.lenS s))] (bB (A.eq (A.nthS s (A.nat 0)) 48) (bB (A.lt 1 (A.int (A.lenS s))) (F (AV.tup [AV.int .i64 0,AV.bool false]) (none)) (K (ZaT (s) (0) (0) (0)))) (K (ZaT (s) (0) (0) (0)))))))))) (bB (A.eq (A.int (A.lenS s)) 0) (F (AV.tup [AV.int .i64 0,AV.bool false]) (none)) (rB [A.inR .i64 (A.sub (A.int (A.lenS s)) 0)] (bB (A.lt d (A.sub (A.int (A.lenS s)) 0)) (F (AV.tup [AV.int .i64 0,AV.bool false]) (none)) (rB [Zah (A.le 0 0) (Nat.blt (A.nat 0) (A.lenS s))] (bB (A.eq (A.nthS s (A.nat 0)) 48) (bB (A.lt 1 (A.int (A.lenS s))) (F (AV.tup [AV.int .i64 0,AV.bool false]) (none)) (K (ZaT (s) (0) (0) (0)))) (K (ZaT (s) (0) (0) (0))))))))
theorem Zvq{A:Ar}{K:KT}{F:FT}{M:MT}{s:List UInt8}{d:Int} :ZaE A tab Ls0 110 K F M (.run 16 (.tf (.ty (.ty (.ty (.run 2 (.tf (.run 11 (.tf (.ty (.ty (.ty (.ty (.ty (.ty (.run 1 (.ty (.ty (.ty (.ty (.ty (.run 3 (.ty (.ty (.run 2 (.ty (.run 6 (.fn))))))))))))))))))) (.fy (.fy (.fy (.fy (.fy (.fy (.run 1 (.tf (.ty (.ty (.ty (.ty (.run 3 (.ty (.ty (.run 2 (.ty (.run 6 (.fn))))))))))) (.fy (.fy (.fy (.fy (.tf (.ty (.ty (.alt [false,true] (.fy (.run 2 (.tf (.run 6 (.fn)) (.run 14 (.hd))))) (.no)))) (.fy (.fy (.alt [false,false] (.fy (.run 2 (.fy (.run 14 (.hd))))) (.no))))))))))))))))))) (.run 9 (.tf (.ty (.ty (.ty (.ty (.ty (.ty (.run 1 (.ty (.ty (.ty (.ty (.ty (.run 3 (.ty (.ty (.run 2 (.ty (.run 6 (.fn))))))))))))))))))) (.fy (.fy (.fy (.fy (.fy (.fy (.run 1 (.tf (.ty (.ty (.ty (.ty (.run 3 (.ty (.ty (.run 2 (.ty (.run 6 (.fn))))))))))) (.fy (.fy (.fy (.fy (.tf (.ty (.ty (.alt [false,true] (.fy (.run 2 (.tf (.run 6 (.fn)) (.run 14 (.hd))))) (.no)))) (.fy (.fy (.alt [false,false] (.fy (.run 2 (.fy (.run 14 (.hd))))) (.no)))))))))))))))))))))))) (.fy (.fy (.fy (.run 2 (.fy (.run 9 (.tf (.ty (.ty (.ty (.ty (.ty (.ty (.run 1 (.ty (.ty (.ty (.ty (.ty (.run 3 (.ty (.ty (.run 2 (.ty (.run 6 (.fn))))))))))))))))))) (.fy (.fy (.fy (.fy (.fy (.fy (.run 1 (.tf (.ty (.ty (.ty (.ty (.run 3 (.ty (.ty (.run 2 (.ty (.run 6 (.fn))))))))))) (.fy (.fy (.fy (.fy (.tf (.ty (.ty (.alt [false,true] (.fy (.run 2 (.tf (.run 6 (.fn)) (.run 14 (.hd))))) (.no)))) (.fy (.fy (.alt [false,false] (.fy (.run 2 (.fy (.run 14 (.hd))))) (.no)))))))))))))))))))))))))) (Zyp s d) []=ZpC A K F s d:=by kernel_rfl
def Za9(A:Ar)(K:KT)(F:FT)(s:List UInt8)(n0 n1 n2:Int):Prop:=bB (A.lt n1 (A.int (A.lenS s))) (rB [Zah (A.le 0 n1) (Nat.blt (A.nat n1) (A.lenS s))] (bB (A.lt (A.nthS s (A.nat n1)) 48) (F (AV.tup [AV.int .i64 0,AV.bool false]) (none)) (rB [Zah (A.le 0 n1) (Nat.blt (A.nat n1) (A.lenS s))] (bB (A.lt 57 (A.nthS s (A.nat n1))) (F (AV.tup [AV.int .i64 0,AV.bool false]) (none)) (rB [A.inR .i64 (A.add n1 1),A.inR .i64 (A.add (A.mul 10 n2) (A.sub (A.nthS s (A.nat n1)) 48)),A.inR .i64 (A.sub (A.nthS s (A.nat n1)) 48),A.inR .u8 (A.sub (A.nthS s (A.nat n1)) 48),Zah (A.le 0 n1) (Nat.blt (A.nat n1) (A.lenS s)),A.inR .i64 (A.mul 10 n2)] (K (ZaT (s) (n0) (A.add n1 1) (A.add (A.mul 10 n2) (A.sub (A.nthS s (A.nat n1)) 48))))))))) (bB (A.eq n0 1) (rB [A.inR .i64 (A.neg n2)] (F (AV.tup [AV.int .i64 (A.neg n2),AV.bool true]) (none))) (F (AV.tup [AV.int .i64 n2,AV.bool true]) (none)))
theorem ZeZ{A:Ar}{K:KT}{F:FT}{M:MT}{s:List UInt8}{n0 n1 n2:Int} :ZaE A tab Ls0 110 K F M (.run 9 (.tf (.run 11 (.tf (.ty (.ty (.ty (.ty (.run 2 (.ty (.run 6 (.fn)))))))) (.fy (.fy (.fy (.fy (.run 2 (.tf (.run 6 (.fn)) (.run 20 (.hd)))))))))) (.run 7 (.tf (.run 12 (.fn)) (.run 8 (.fn)))))) (Zdu s n0 n1 n2) (ZcM s n0 n1 n2)=Za9 A K F s n0 n1 n2:=by kernel_rfl
def ZpL:AFrame:={ fn:=111,N:=2,env:=[],todo:=[.code a111.code],defs:=[],rnd:=none,ret:=false,res:=[ARes.tmp 0] }
def Zxg:List AFrame:=[ZpL]
theorem Zoe:Zaz tab 111 []=some ZpL:=rfl
def ZpY(A:Ar)(K:KT)(F:FT):Prop:=rB [List.all [AV.str [112,97,115,115],AV.str [115,101,110,100],AV.str [97,114,114,105,118,101],AV.str [104,101,97,114],AV.str [108,111,115,101],AV.str [100,114,111,112],AV.str [114,101,112,101,97,116],AV.str [114,101,115,116,97,114,116],AV.str [114,101,98,111,111,116]] fun x=>AV.bx x&&Nat.beq (Zal A x) 1] (F (AV.row 0 0) (some { e:=9,sz:=1,r:=Row.big .str [AV.str [112,97,115,115],AV.str [115,101,110,100],AV.str [97,114,114,105,118,101],AV.str [104,101,97,114],AV.str [108,111,115,101],AV.str [100,114,111,112],AV.str [114,101,112,101,97,116],AV.str [114,101,115,116,97,114,116],AV.str [114,101,98,111,111,116]] }))
theorem Zup{A:Ar}{K:KT}{F:FT}{M:MT} :ZaE A tab Ls0 111 K F M (.run 10 (.fn)) (Zxg ) []=ZpY A K F :=by kernel_rfl
end Go.Proofs.YtkeoeooghhjibaaGreatDoor
