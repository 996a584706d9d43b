/- Contracts as a list. No condition. -/
import Derived.Test.YtkeoeooghhjibaaGreatDoorCx
import Derived.KernelRfl
namespace Go.Proofs.YtkeoeooghhjibaaGreatDoor
def Zl7(rs:List AV)(a:Int)(xs:List Int)(q:Int)(i:Nat):Bool:=decide (Zaj rs i 3≠ -1)&&ZmK a q (Zaj rs i 1) (Zaj rs i 2)&&decide (xs.getD (Zaj rs i 3).toNat 0≠ -1)
def Zos(rs:List AV)(xs:List Int)(i:Nat):Int:=xs.getD (Zaj rs i 3).toNat 0+Zaj rs i 4
def Zcr(rs:List AV)(a:Int)(xs:List Int)(q:Int):Nat→Nat→Int→Int
 |0,_,t=>t
 |m+1,i,t=>Zcr rs a xs q m (i+1) (if Zl7 rs a xs q i=true then max t (Zos rs xs i)else t)
def Zb1(rs l:List AV)(a t:Int)(xs:List Int)(i:Nat):Int:=Zcr rs a xs (Zaj l i 0) rs.length 0 (max t (Zaj l i 1))
def ZcD(ks rs l:List AV):Nat→Nat→Int→Int→List Int→Option (List Int)
 |0,_,_,_,_=>some []
 |m+1,i,a,t,xs=>if ZdB rs a (Zb1 rs l a t xs i) xs (Zaj l i 0) (Zaj l i 1) (Zaj l i 2)=true then(ZcD ks rs l m (i+1) (exM ks a (Zaj l i 0)) (Zb1 rs l a t xs i) (xs.set (Zaj l i 0).toNat (Zb1 rs l a t xs i))).map (Zb1 rs l a t xs i:: ·)else none
theorem ZcB(rs:List AV)(a:Int)(xs:List Int)(q:Int):∀(m i:Nat) (t:Int),t≤Zcr rs a xs q m i t
 |0,_,_=>Int.le_refl _
 |m+1,i,t=>by
  unfold Zcr
  split
  ·have:=ZcB rs a xs q m (i+1) (max t (Zos rs xs i));omega
  ·exact ZcB rs a xs q m (i+1) t
structure OkT (ks:List AV) (t:Int) (xs:List Int):Prop where
 len:xs.length=ks.length
 all:∀x∈xs, -1≤x∧x≤t
 lo:0≤t
 hi:t≤1000000000000
theorem OkT.at{ks:List AV}{t:Int}{xs:List Int}(h:OkT ks t xs){k:Nat}(hk:k<xs.length): -1≤xs.getD k 0∧xs.getD k 0≤t:=by
 refine h.all _ ?_
 rw[List.getD_eq_getElem?_getD,List.getElem?_eq_getElem hk];exact List.getElem_mem hk
theorem OkT.set{ks:List AV}{t t':Int}{xs:List Int}(h:OkT ks t xs)(h1:t≤t')(h2:t'≤1000000000000)(k:Nat):OkT ks t' (xs.set k t'):=by
 refine⟨by simpa using h.len,fun x hx=>?_,by have:=h.lo;omega,h2⟩
 rcases List.mem_or_eq_of_mem_set hx with hx |rfl
 ·have:=h.all x hx;omega
 ·have:=h.lo;omega
theorem OkT.forb{ms ks rs l:List AV}(hf:OkF ms ks rs l){t t':Int}{xs:List Int}(h:OkT ks t xs)(h1:t≤t')(h2:t'≤1000000000000):ZbS rs t' xs=true:=by
 simp only[ZbS,Bool.and_eq_true,List.all_eq_true,decide_eq_true_eq,List.mem_range]
 refine⟨⟨fun i hi=>?_,fun x hx=>?_⟩,by have:=h.lo;omega,h2,by have:=hf.rs1;omega⟩
 ·have:=(hf.rule i hi).2.1;have:=h.len;omega
 ·have:=h.all x hx;omega
def Zyy(out:List Int):Option (List Int)→AV
 |some ts=>.tup [.list (.ints .i64 (out++ts)), .int .i64 0]
 |none=>.tup [.list (.ints .i64 []), .int .i64 12]
theorem ZjY(out:List Int)(t:Int)(o:Option (List Int)):Zyy out (o.map (t:: ·))=Zyy (out++[t]) o:=by
 cases o with
 |none=>rfl
 |some ts=>simp[Zyy]
section
variable {C:Ctx}(hC:C.P=Tryz.prog)(ms ks rs l:List AV)(hf:OkF ms ks rs l)
include hC hf
theorem Zsu(n0 n21:Int)(l22 xs:List Int)(a:Int)(b27:Bool)(n28 n29 n30 n31 n32 n33 n34 n35 n36 n37 n38 n39 q n42 n43 t0:Int)(hT:OkT ks t0 xs)(V:AV):
 ∀(m i:Nat) (t:Int),i+m=rs.length→(∀t',t'=Zcr rs a xs q m i t→Ev C (ZeO ms ks rs l n0 n21 l22 xs a rs.length b27 n28 n29 n30 n31 n32 n33 n34 n35 n36 n37 n38 n39 t' q n42 n43 rs.length) (ZdV ms ks rs l n0 n21 l22 xs a rs.length b27 n28 n29 n30 n31 n32 n33 n34 n35 n36 n37 n38 n39 t' q n42 n43 rs.length) (Zqu 24 V))→
  Ev C (ZeO ms ks rs l n0 n21 l22 xs a rs.length b27 n28 n29 n30 n31 n32 n33 n34 n35 n36 n37 n38 n39 t q n42 n43 i) (ZdV ms ks rs l n0 n21 l22 xs a rs.length b27 n28 n29 n30 n31 n32 n33 n34 n35 n36 n37 n38 n39 t q n42 n43 i) (Zqu 24 V)
 |0,i,t,hk,hq=>by
  have:i=rs.length:=by omega
  subst this
  exact hq t rfl
 |m+1,i,t,hk,hq=>by
  have hlt:(i:Int)<rs.length:=by omega
  have hlt2:i<rs.length:=by omega
  have e1:((rs.getD i .top).cellAt 1).toI=Zaj rs i 1:=rfl
  have e2:((rs.getD i .top).cellAt 2).toI=Zaj rs i 2:=rfl
  have e3:((rs.getD i .top).cellAt 3).toI=Zaj rs i 3:=rfl
  have e4:((rs.getD i .top).cellAt 4).toI=Zaj rs i 4:=rfl
  have ih:=fun t'=>Zsu n0 n21 l22 xs a b27 n28 n29 n30 n31 n32 n33 n34 n35 n36 n37 n38 n39 q n42 n43 t0 hT V m (i+1) t' (by omega)
  obtain⟨_,r3,r4⟩:=hf.rule i hlt2
  have hr:=hf.rs1
  have hlen:=hT.len
  have hi:=hT.hi
  refine Zth hC ZiL ZhR ?_
  by_cases h3:Zaj rs i 3= -1
  ·have:=ih t (fun t' ht'=>hq t' (by rw[Zcr,if_neg (by simp[Zl7,h3])];exact ht'))
   simp[-List.getD_eq_getElem?_getD,Zbt,hlt,hlt2,e1,e2,e3,e4,h3]
   exact⟨by omega,by simpa using this⟩
  ·have hx:=hT.at (show (Zaj rs i 3).toNat<xs.length by omega)
   by_cases h4:ZmK a q (Zaj rs i 1) (Zaj rs i 2)=true
   ·by_cases h5:xs.getD (Zaj rs i 3).toNat 0= -1
    ·have:=ih t (fun t' ht'=>hq t' (by rw[Zcr,if_neg (by simp only[Zl7,h5];simp)];exact ht'))
     simp[-List.getD_eq_getElem?_getD,Zbt,hlt,hlt2,e1,e2,e3,e4,h3,h4,h5,show(0:Int)≤Zaj rs i 3 by omega,show(Zaj rs i 3).toNat<xs.length by omega]
     exact⟨by omega,by simpa using this⟩
    ·have:=ih (max t (Zos rs xs i)) (fun t' ht'=>hq t' (by rw[Zcr,if_pos (by simp only[Zl7,h4,decide_eq_true h3,decide_eq_true h5,Bool.and_self])];exact ht'))
     simp[-List.getD_eq_getElem?_getD,Zbt,hlt,hlt2,e1,e2,e3,e4,h3,h4,h5,show(0:Int)≤Zaj rs i 3 by omega,show(Zaj rs i 3).toNat<xs.length by omega]
     exact⟨⟨by omega,by omega⟩,by simpa[Zos]using this⟩
   ·have:=ih t (fun t' ht'=>hq t' (by rw[Zcr,if_neg (by simp only[Zl7,(by simpa using h4:ZmK a q (Zaj rs i 1) (Zaj rs i 2)=false)];simp)];exact ht'))
    simp[-List.getD_eq_getElem?_getD,Zbt,hlt,hlt2,e1,e2,e3,e4,h3,h4]
    exact⟨by omega,by simpa using this⟩
theorem Zsw(n0:Int)(xs:List Int)(b27:Bool)(n28 n29 n30 n31 n32 n33 n34 n35 n36 n37 n38 n39 q n42 n43 t0:Int)(hT:OkT ks t0 xs)(V:AV):
 ∀(m i:Nat) (t:Int),i+m=rs.length→(∀t',t'=Zcr rs 0 xs q m i t→Ev C (ZeT ms ks rs l n0 xs rs.length b27 n28 n29 n30 n31 n32 n33 n34 n35 n36 n37 n38 n39 t' q n42 n43 rs.length) (ZdX ms ks rs l n0 xs rs.length b27 n28 n29 n30 n31 n32 n33 n34 n35 n36 n37 n38 n39 t' q n42 n43 rs.length) (Zqu 24 V))→
  Ev C (ZeT ms ks rs l n0 xs rs.length b27 n28 n29 n30 n31 n32 n33 n34 n35 n36 n37 n38 n39 t q n42 n43 i) (ZdX ms ks rs l n0 xs rs.length b27 n28 n29 n30 n31 n32 n33 n34 n35 n36 n37 n38 n39 t q n42 n43 i) (Zqu 24 V)
 |0,i,t,hk,hq=>by
  have:i=rs.length:=by omega
  subst this
  exact hq t rfl
 |m+1,i,t,hk,hq=>by
  have hlt:(i:Int)<rs.length:=by omega
  have hlt2:i<rs.length:=by omega
  have e1:((rs.getD i .top).cellAt 1).toI=Zaj rs i 1:=rfl
  have e2:((rs.getD i .top).cellAt 2).toI=Zaj rs i 2:=rfl
  have e3:((rs.getD i .top).cellAt 3).toI=Zaj rs i 3:=rfl
  have e4:((rs.getD i .top).cellAt 4).toI=Zaj rs i 4:=rfl
  have ih:=fun t'=>Zsw n0 xs b27 n28 n29 n30 n31 n32 n33 n34 n35 n36 n37 n38 n39 q n42 n43 t0 hT V m (i+1) t' (by omega)
  obtain⟨_,r3,r4⟩:=hf.rule i hlt2
  have hr:=hf.rs1
  have hlen:=hT.len
  have hi:=hT.hi
  refine Zth hC ZiL Zit ?_
  by_cases h3:Zaj rs i 3= -1
  ·have:=ih t (fun t' ht'=>hq t' (by rw[Zcr,if_neg (by simp[Zl7,h3])];exact ht'))
   simp[-List.getD_eq_getElem?_getD,Zbu,hlt,hlt2,e1,e2,e3,e4,h3]
   exact⟨by omega,by simpa using this⟩
  ·have hx:=hT.at (show (Zaj rs i 3).toNat<xs.length by omega)
   by_cases h4:ZmK 0 q (Zaj rs i 1) (Zaj rs i 2)=true
   ·by_cases h5:xs.getD (Zaj rs i 3).toNat 0= -1
    ·have:=ih t (fun t' ht'=>hq t' (by rw[Zcr,if_neg (by simp only[Zl7,h5];simp)];exact ht'))
     simp[-List.getD_eq_getElem?_getD,Zbu,hlt,hlt2,e1,e2,e3,e4,h3,h4,h5,show(0:Int)≤Zaj rs i 3 by omega,show(Zaj rs i 3).toNat<xs.length by omega]
     exact⟨by omega,by simpa using this⟩
    ·have:=ih (max t (Zos rs xs i)) (fun t' ht'=>hq t' (by rw[Zcr,if_pos (by simp only[Zl7,h4,decide_eq_true h3,decide_eq_true h5,Bool.and_self])];exact ht'))
     simp[-List.getD_eq_getElem?_getD,Zbu,hlt,hlt2,e1,e2,e3,e4,h3,h4,h5,show(0:Int)≤Zaj rs i 3 by omega,show(Zaj rs i 3).toNat<xs.length by omega]
     exact⟨⟨by omega,by omega⟩,by simpa[Zos]using this⟩
   ·have:=ih t (fun t' ht'=>hq t' (by rw[Zcr,if_neg (by simp only[Zl7,(by simpa using h4:ZmK 0 q (Zaj rs i 1) (Zaj rs i 2)=false)];simp)];exact ht'))
    simp[-List.getD_eq_getElem?_getD,Zbu,hlt,hlt2,e1,e2,e3,e4,h3,h4]
    exact⟨by omega,by simpa using this⟩
theorem Ziq:∀(m i:Nat) (out xs:List Int) (a t:Int),i+m=l.length→out.length≤i→OkT ks t xs→Ev C (Zgv ms ks rs l l.length i out xs a t) (Ze5 ms ks rs l l.length i out xs a t) (Zqu 24 (Zyy out (ZcD ks rs l m i a t xs)))
 |0,i,out,xs,a,t,hk,ho,hT=>Zth hC ZiL Ziw (by
  simp only[Zfo,ZvQ,ZxP,decide_eq_true_eq,if_neg (show ¬(i:Int)<l.length by omega)]
  exact ZDp 0 _ _ (by simp))
 |m+1,i,out,xs,a,t,hk,ho,hT=>by
  have hlt:(i:Int)<l.length:=by omega
  have hlt2:i<l.length:=by omega
  have e0:((l.getD i .top).cellAt 0).toI=Zaj l i 0:=rfl
  have e1:((l.getD i .top).cellAt 1).toI=Zaj l i 1:=rfl
  have e2:((l.getD i .top).cellAt 2).toI=Zaj l i 2:=rfl
  have e3:((ks.getD (Zaj l i 0).toNat .top).cellAt 1).toI=Zaj ks (Zaj l i 0) 1:=rfl
  obtain⟨ha,hb,hc,hd⟩:=hf.act i hlt2
  have h1:=hf.l1
  have hlen:=hT.len
  refine Zth hC ZiL Ziw ?_
  simp only[Zfo,ZvQ,ZxP,decide_eq_true_eq,if_pos hlt,ZnM]
  refine⟨by simp[hlt2],?_⟩
  simp only[Zhy,Zco,ZsQ,Zf9,Int.toNat_natCast,e0,e1,e2,ZyP]
  refine Zsu hC ms ks rs l hf _ _ _ xs a _ _ _ _ _ _ _ _ _ _ _ _ _ _ _ _ t hT _ rs.length 0 _ (by omega) fun t' ht'=>?_
  have ht':t'=Zb1 rs l a t xs i:=ht'
  have hge:t≤t':=by
   have:=ZcB rs a xs (Zaj l i 0) rs.length 0 (max t (Zaj l i 1))
   rw[ht'];unfold Zb1;omega
  refine Zth hC ZiL ZhR ?_
  have hfb:Zab t' (Zaj l i 1) (Zaj l i 2)=false∨ZbS rs t' xs=true:=by
   cases hw:Zab t' (Zaj l i 1) (Zaj l i 2)
   ·exact .inl rfl
   ·have:=within_iff.1 hw
    exact .inr (hT.forb (ms:=ms) (l:=l) hf hge (by omega))
  rw[ZcD,←ht']
  by_cases hac:ZdB rs a t' xs (Zaj l i 0) (Zaj l i 1) (Zaj l i 2)=true
  ·have hw:Zab t' (Zaj l i 1) (Zaj l i 2)=true:=by
    unfold ZdB at hac
    simp only[Bool.and_eq_true]at hac
    exact hac.1
   have hw':=within_iff.1 hw
   rw[if_pos hac,ZjY]
   have ih:=fun v=>Ziq m (i+1) (out++[t']) (xs.set (Zaj l i 0).toNat t') v t' (by omega) (by simp;omega) (hT.set hge (by omega) _)
   by_cases hm:Zaj ks (Zaj l i 0) 1= -1
   ·have:=ih a
    simp[-List.getD_eq_getElem?_getD,Zbt,e3,hfb,hac,ha,hlen,hm,AV.bx,Zad,exM]
    exact⟨by omega,by simpa using this⟩
   ·have:=ih (Zaj ks (Zaj l i 0) 1)
    simp[-List.getD_eq_getElem?_getD,Zbt,e3,hfb,hac,ha,hlen,hm,AV.bx,Zad,exM]
    exact⟨by omega,by simpa using this⟩
  ·rw[if_neg hac]
   simp[-List.getD_eq_getElem?_getD,Zbt,hfb,hac]
   exact Zub 12 [] rfl
end
def ZkP(ks rs l:List AV):Option (List Int):=ZcD ks rs l l.length 0 0 0 (List.replicate ks.length (-1))
def Zmo(ms ks rs l:List AV):List Int:=if Zgf ms ks rs l=0 then(ZkP ks rs l).getD []else []
def Zhw(ms ks rs l:List AV):Int:=if Zgf ms ks rs l=0 then(if (ZkP ks rs l).isSome=true then 0 else 12)else Zgf ms ks rs l
theorem ZAg{ms ks rs l:List AV}(h:Zgf ms ks rs l=0):Zyy [] (ZkP ks rs l)=.tup [.list (.ints .i64 (Zmo ms ks rs l)), .int .i64 (Zhw ms ks rs l)]:=by
 unfold Zmo Zhw
 rw[if_pos h,if_pos h]
 cases ZkP ks rs l<;>rfl
theorem ZFz{ms ks rs l:List AV}(_:OkF ms ks rs l):OkT ks 0 (List.replicate ks.length (-1)):=⟨by simp,fun x hx=>by rw[List.eq_of_mem_replicate hx];omega,by omega,by omega⟩
theorem ZnR(ms ks rs:List AV)(l:List AV)(h:Zax ms ks rs=true∧l.length≤1000000):Zao Tryz.prog 24 [.agg (.gen [.list (.big .str ms), .list (.big (.agg [.str, .int .i64]) ks), .list (.big (.agg [.str, .int .i64, .int .i64, .int .i64, .int .i64]) rs)]), .list (.big (.agg [.int .i64, .int .i64, .int .i64]) l)] (.tup [.list (.ints .i64 (Zmo ms ks rs l)), .int .i64 (Zhw ms ks rs l)]) Ztn:=
 ZBt (Zu6 ms ks rs l) fun C hC=>Zth hC ZiL ZC3 (by
  have he:ZbA (ZaC ms ks rs) ks.length l=Zgf ms ks rs l:=rfl
  by_cases h0:Zgf ms ks rs l=0
  ·have hf:=okF h0
   have hT:=ZFz hf
   obtain⟨ha,hb,hc,hd⟩:(0≤Zaj l 0 0∧Zaj l 0 0<ks.length)∧(0≤Zaj l 0 1∧Zaj l 0 1≤1000000000000)∧(0≤Zaj l 0 2∧Zaj l 0 2≤1000000000000)∧Zaj l 0 1≤Zaj l 0 2:=hf.act 0 hf.l1.1
   have hl:=hf.l1.1
   have hk:=hf.ks1
   simp[ZuV,h,he,h0,AV.bx,Zad]
   refine⟨by omega,?_⟩
   refine Zth hC ZiL Znz ?_
   have e0:((l.getD 0 .top).cellAt 0).toI=Zaj l 0 0:=rfl
   have e1:((l.getD 0 .top).cellAt 1).toI=Zaj l 0 1:=rfl
   have e2:((l.getD 0 .top).cellAt 2).toI=Zaj l 0 2:=rfl
   have e3:((ks.getD (Zaj l 0 0).toNat .top).cellAt 1).toI=Zaj ks (Zaj l 0 0) 1:=rfl
   simp only[Zid,ZvQ,ZxP,decide_eq_true_eq,if_pos (show (0:Int)<l.length by omega),ZnM]
   refine⟨by simp[hl],?_⟩
   simp only[Zhy,Zco,ZsQ,Zf9,Int.toNat_zero,e0,e1,e2,ZyP]
   refine Zsw hC ms ks rs l hf _ (List.replicate ks.length (-1)) _ _ _ _ _ _ _ _ _ _ _ _ _ _ _ _ 0 hT _ rs.length 0 _ (by omega) fun t' ht'=>?_
   have ht':t'=Zb1 rs l 0 0 (List.replicate ks.length (-1)) 0:=ht'
   have hge:0≤t':=by
    have:=ZcB rs 0 (List.replicate ks.length (-1)) (Zaj l 0 0) rs.length 0 (max 0 (Zaj l 0 1))
    have e:Zb1 rs l 0 0 (List.replicate ks.length (-1)) 0=Zcr rs 0 (List.replicate ks.length (-1)) (Zaj l 0 0) rs.length 0 (max 0 (Zaj l 0 1)):=rfl
    rw[ht',e];omega
   refine Zth hC ZiL Zit ?_
   have hfb:Zab t' (Zaj l 0 1) (Zaj l 0 2)=false∨ZbS rs t' (List.replicate ks.length (-1))=true:=by
    cases hw:Zab t' (Zaj l 0 1) (Zaj l 0 2)
    ·exact .inl rfl
    ·have:=within_iff.1 hw
     exact .inr (hT.forb (ms:=ms) (l:=l) hf hge (by omega))
   rw[←ZAg h0]
   obtain⟨n,hn⟩:∃n,l.length=n+1:=⟨l.length-1,by omega⟩
   have hx:ZkP ks rs l=if ZdB rs 0 t' (List.replicate ks.length (-1)) (Zaj l 0 0) (Zaj l 0 1) (Zaj l 0 2)=true then(ZcD ks rs l n 1 (exM ks 0 (Zaj l 0 0)) t' ((List.replicate ks.length (-1)).set (Zaj l 0 0).toNat t')).map (t':: ·)else none:=by
    unfold ZkP
    rw[hn,ZcD,ht'];rfl
   rw[hx]
   by_cases hac:ZdB rs 0 t' (List.replicate ks.length (-1)) (Zaj l 0 0) (Zaj l 0 1) (Zaj l 0 2)=true
   ·have hw:Zab t' (Zaj l 0 1) (Zaj l 0 2)=true:=by
     unfold ZdB at hac
     simp only[Bool.and_eq_true]at hac
     exact hac.1
    have hw':=within_iff.1 hw
    rw[if_pos hac,ZjY]
    have ih:=fun v=>Ziq hC ms ks rs l hf n 1 [t'] ((List.replicate ks.length (-1)).set (Zaj l 0 0).toNat t') v t' (by omega) (by simp) (hT.set hge (by omega) _)
    by_cases hm:Zaj ks (Zaj l 0 0) 1= -1
    ·have:=ih 0
     simp[-List.getD_eq_getElem?_getD,Zbu,e3,hfb,hac,ha,hm,AV.bx,Zad,exM]
     simpa using this
    ·have:=ih (Zaj ks (Zaj l 0 0) 1)
     simp[-List.getD_eq_getElem?_getD,Zbu,e3,hfb,hac,ha,hm,AV.bx,Zad,exM]
     simpa using this
   ·rw[if_neg hac]
    simp[-List.getD_eq_getElem?_getD,Zbu,hfb,hac]
    exact Zub 12 [] rfl
  ·simp[ZuV,h,he,h0]
   have e:Zhw ms ks rs l=Zgf ms ks rs l:=by simp[Zhw,h0]
   rw[e]
   exact Zub _ _ (by simp[Zmo,h0]))
def k24:Ctr:=⟨24,0,fun _ a=>match a with |[.agg (.gen [.list (.big .str ms), .list (.big (.agg [.str, .int .i64]) ks), .list (.big (.agg [.str, .int .i64, .int .i64, .int .i64, .int .i64]) rs)]), .list (.big (.agg [.int .i64, .int .i64, .int .i64]) l)]=>some (decide (Zax ms ks rs=true∧l.length≤1000000), .tup [.list (.ints .i64 (Zmo ms ks rs l)), .int .i64 (Zhw ms ks rs l)],Ztn) |_=>none⟩
theorem ZCc:k24.OK Tryz.prog:=fun pa args r fr h=>by
 simp only[k24]at h
 split at h
 ·simp only[Option.some.injEq,Prod.mk.injEq,decide_eq_true_eq]at h
  obtain⟨h0,rfl,rfl⟩:=h
  exact ZnR _ _ _ _ h0
 ·cases h
def Bf:List Ctr:=[k24]++Be
theorem ZDR:ZaD Tryz.prog Bf:=⟨ZCc,ZDG⟩
end Go.Proofs.YtkeoeooghhjibaaGreatDoor
/- The earliest time: the least feasible candidate. No condition. -/
namespace Go.Proofs.YtkeoeooghhjibaaGreatDoor
theorem Zkg{rs:List AV}{a t:Int}{xs:List Int}{c:Int} :∀(m i:Nat),ZhI rs a t xs c m i=i+m↔∀j,i≤j→j<i+m→ZjE rs a t xs c j=false
 |0,i=>⟨fun _ j h1 h2=>by omega,fun _=>rfl⟩
 |m+1,i=>by
  unfold ZhI
  have ih:=Zkg (rs:=rs) (a:=a) (t:=t) (xs:=xs) (c:=c) m (i+1)
  constructor
  ·intro h j h1 h2
   split at h
   ·omega
   ·rename_i hb
    by_cases hj:j=i
    ·subst hj;simpa using hb
    ·exact ih.1 (by omega) j (by omega) (by omega)
  ·intro h
   rw[if_neg (by rw[h i (by omega) (by omega)];simp)]
   have:=ih.2 fun j h1 h2=>h j (by omega) (by omega)
   omega
theorem Zis{rs:List AV}{a t:Int}{xs:List Int}{c:Int} :ZeC rs a t xs c=true↔∀i<rs.length,ZjE rs a t xs c i=false:=by
 unfold ZeC
 rw[decide_eq_true_eq]
 have:=Zkg (rs:=rs) (a:=a) (t:=t) (xs:=xs) (c:=c) rs.length 0
 rw[Nat.zero_add]at this
 rw[this]
 exact⟨fun h i hi=>h i (Nat.zero_le _) hi,fun h j _ hj=>h j hj⟩
theorem ZmX{rs:List AV}{a:Int}{xs:List Int}{q B:Int} :∀(m i:Nat) (t:Int),i+m=rs.length→t≤B→(∀j<rs.length,Zl7 rs a xs q j=true→Zos rs xs j≤B)→Zcr rs a xs q m i t≤B
 |0,_,_,_,h,_=>h
 |m+1,i,t,hk,h,hg=>by
  unfold Zcr
  refine ZmX m (i+1) _ (by omega) ?_ hg
  split
  ·rename_i hb
   have:=hg i (by omega) hb;omega
  ·exact h
theorem ZkH{rs:List AV}{a:Int}{xs:List Int}{q:Int} :∀(m i:Nat) (t:Int) (j:Nat),i≤j→j<i+m→Zl7 rs a xs q j=true→Zos rs xs j≤Zcr rs a xs q m i t
 |0,i,t,j,h1,h2,_=>by omega
 |m+1,i,t,j,h1,h2,hb=>by
  unfold Zcr
  by_cases hj:j=i
  ·subst hj
   rw[if_pos hb]
   have:=ZcB rs a xs q m (j+1) (max t (Zos rs xs j));omega
  ·exact ZkH m (i+1) _ j (by omega) (by omega) hb
end Go.Proofs.YtkeoeooghhjibaaGreatDoor
/- Contracts as a list. No condition. -/
namespace Go.Proofs.YtkeoeooghhjibaaGreatDoor
def ZHH(rs:List AV)(b:Int)(xs:List Int)(d e:Int):Bool:=ZbS rs b xs&&((List.range rs.length).all fun i=>decide (1≤Zaj rs i 4∧Zaj rs i 4≤1000000∧Zay rs i≠[]))&&decide (0≤d∧d≤1000000000000∧e≤1000000000000)
section
variable {C:Ctx}(hC:C.P=Tryz.prog)(ms ks rs:List AV)(a b:Int)(xs:List Int)(c d e:Int)(hg:ZHH rs b xs d e=true)
include hC hg
end
def Bg:List Ctr:=Bf
theorem ZDD:ZaD Tryz.prog Bg:=ZDR
end Go.Proofs.YtkeoeooghhjibaaGreatDoor
/- Contracts as a list. No condition. -/
namespace Go.Proofs.YtkeoeooghhjibaaGreatDoor
def tfG(ks rs l:List AV)(b:Int)(xs:List Int):Bool:=ZbS rs b xs&&((List.range rs.length).all fun i=>decide (1≤Zaj rs i 4∧Zaj rs i 4≤1000000∧Zay rs i≠[]))&&((List.range l.length).all fun i=>decide ((0≤Zaj l i 0∧Zaj l i 0<ks.length)∧(0≤Zaj l i 1∧Zaj l i 1≤1000000000000)∧Zaj l i 2≤1000000000000))&&decide (xs.length=ks.length∧xs.length≤1000000∧l.length≤1000000)
structure OkX (ks rs l:List AV) (b:Int) (xs:List Int):Prop where
 forb:ZbS rs b xs=true
 rule:∀i<rs.length,1≤Zaj rs i 4∧Zaj rs i 4≤1000000∧Zay rs i≠[]
 act:∀i<l.length,(0≤Zaj l i 0∧Zaj l i 0<ks.length)∧(0≤Zaj l i 1∧Zaj l i 1≤1000000000000)∧Zaj l i 2≤1000000000000
 len:xs.length=ks.length∧xs.length≤1000000∧l.length≤1000000
theorem tfG_iff{ks rs l:List AV}{b:Int}{xs:List Int} :tfG ks rs l b xs=true↔OkX ks rs l b xs:=by
 simp only[tfG,Bool.and_eq_true,List.all_eq_true,decide_eq_true_eq,List.mem_range]
 exact⟨fun h=>⟨h.1.1.1,h.1.1.2,h.1.2,h.2⟩,fun h=>⟨⟨⟨h.forb,h.rule⟩,h.act⟩,h.len⟩⟩
theorem OkX.next{ks rs l:List AV}{b t:Int}{xs:List Int}(h:OkX ks rs l b xs)(h1:b≤t)(h2:t≤1000000000000)(k:Nat):OkX ks rs l t (xs.set k t):=by
 refine⟨?_,h.rule,h.act,by simpa using h.len⟩
 have hf:=h.forb
 simp only[ZbS,Bool.and_eq_true,List.all_eq_true,decide_eq_true_eq,List.mem_range]at hf⊢
 refine⟨⟨fun i hi=>by simpa using hf.1.1 i hi,fun x hx=>?_⟩,by omega,h2,hf.2.2.2⟩
 rcases List.mem_or_eq_of_mem_set hx with hx |rfl
 ·have:=hf.1.2 x hx;omega
 ·omega
section
variable {C:Ctx}(hC:C.P=Tryz.prog)(ms ks rs l:List AV)
include hC
end
def Bh:List Ctr:=Bg
theorem ZEU:ZaD Tryz.prog Bh:=ZDD
end Go.Proofs.YtkeoeooghhjibaaGreatDoor
/- Contracts as a list. No condition. -/
namespace Go.Proofs.YtkeoeooghhjibaaGreatDoor
theorem ZuS{s:List UInt8}(h:ZaT s=true):s≠[]:=fun e=>by subst e;revert h;decide
theorem OkF.tf{ms ks rs l:List AV}(hf:OkF ms ks rs l):tfG ks rs l 0 (List.replicate ks.length (-1))=true:=by
 have hT:=ZFz hf
 refine tfG_iff.2 ⟨hT.forb (ms:=ms) (l:=l) hf (Int.le_refl _) (by omega),fun i hi=>?_,fun i hi=>?_,?_⟩
 ·have:=(hf.rule i hi).2.2
  exact⟨this.1,this.2,ZuS (hf.name i hi)⟩
 ·have:=hf.act i hi;omega
 ·have:=hf.ks1;have:=hf.l1;simp;omega
def Bi:List Ctr:=Bh
theorem ZhE:ZaD Tryz.prog Bi:=ZEU
end Go.Proofs.YtkeoeooghhjibaaGreatDoor
/- Paths of functions, printed by the explorer (Gx). No condition. -/
namespace Go.Proofs.YtkeoeooghhjibaaGreatDoor
set_option maxRecDepth 100000
set_option linter.unusedVariables false
def ZsW(xs:List Int):AFrame:={ fn:=140,N:=8,env:=[(0,AV.list (.ints .i64 xs))],todo:=[.code a140.code],defs:=[],rnd:=none,ret:=false,res:=[ARes.tmp 2] }
def ZCJ(xs:List Int):List AFrame:=[(ZsW xs)]
theorem ZrV(xs:List Int):Zat tab 140 [AV.list (.ints .i64 xs)]=some (ZsW xs):=rfl
def Ztv(A:Ar)(K:KT)(F:FT)(xs:List Int):Prop:=rB [Nat.blt 0 (A.len xs)] (rB [Nat.ble (0+A.len xs) 4294967296,List.all [] fun x=>AV.bx x&&Nat.beq (Zad A x) 1] (F (AV.row 0 0) (some { e:=3,sz:=1,r:=.ints .i64 xs })))
theorem ZA5{A:Ar}{K:KT}{F:FT}{M:MT}{xs:List Int} :ZaK A tab Bi 140 K F M (.run 10 (.fy (.run 9 (.fn)))) (ZCJ xs) []=Ztv A K F xs:=by kernel_rfl
def Zpx(cap:Nat):AFrame:={ fn:=140,N:=8,env:=[(0,AV.val (Go.Value.slice none 0 cap))],todo:=[.code a140.code],defs:=[],rnd:=none,ret:=false,res:=[ARes.tmp 2] }
def ZBO(cap:Nat):List AFrame:=[(Zpx cap)]
theorem Zph(cap:Nat):Zat tab 140 [AV.val (Go.Value.slice none 0 cap)]=some (Zpx cap):=rfl
def ZpV(A:Ar)(K:KT)(F:FT)(cap:Nat):Prop:=F (AV.nils) (none)
theorem ZwY{A:Ar}{K:KT}{F:FT}{M:MT}{cap:Nat} :ZaK A tab Bi 140 K F M (.run 10 (.ty (.run 5 (.fn)))) (ZBO cap) []=ZpV A K F cap:=by kernel_rfl
def Zqq(ad:Go.Addr)(cap:Nat):AFrame:={ fn:=140,N:=8,env:=[(0,AV.val (Go.Value.slice (some ad) 0 cap))],todo:=[.code a140.code],defs:=[],rnd:=none,ret:=false,res:=[ARes.tmp 2] }
def ZyO(ad:Go.Addr)(cap:Nat):List AFrame:=[(Zqq ad cap)]
theorem ZpY(ad:Go.Addr)(cap:Nat):Zat tab 140 [AV.val (Go.Value.slice (some ad) 0 cap)]=some (Zqq ad cap):=rfl
def Zpq(A:Ar)(K:KT)(F:FT)(ad:Go.Addr)(cap:Nat):Prop:=rB [List.all [] fun x=>AV.bx x&&Nat.beq (Zad A x) 1] (F (AV.row 0 0) (some { e:=3,sz:=1,r:=Row.gen [] }))
theorem ZwO{A:Ar}{K:KT}{F:FT}{M:MT}{ad:Go.Addr}{cap:Nat} :ZaK A tab Bi 140 K F M (.run 10 (.fy (.run 9 (.fn)))) (ZyO ad cap) []=Zpq A K F ad cap:=by kernel_rfl
def ZsI(xs:List AV):AFrame:={ fn:=153,N:=8,env:=[(0,AV.list (Row.big (.agg [.int .i64, .int .i64]) xs))],todo:=[.code a153.code],defs:=[],rnd:=none,ret:=false,res:=[ARes.tmp 2] }
def ZEb(xs:List AV):List AFrame:=[(ZsI xs)]
theorem ZrS(xs:List AV):Zat tab 153 [AV.list (Row.big (.agg [.int .i64, .int .i64]) xs)]=some (ZsI xs):=rfl
def ZsP(A:Ar)(K:KT)(F:FT)(xs:List AV):Prop:=rB [Nat.blt 0 (A.lenA xs)] (rB [Nat.ble (0+A.lenA xs) 4294967296,List.all [] fun x=>AV.bx x&&Nat.beq (Zad A x) 2] (F (AV.row 0 0) (some { e:=78,sz:=2,r:=Row.big (.agg [.int .i64, .int .i64]) xs })))
theorem ZzY{A:Ar}{K:KT}{F:FT}{M:MT}{xs:List AV} :ZaK A tab Bi 153 K F M (.run 10 (.fy (.run 9 (.fn)))) (ZEb xs) []=ZsP A K F xs:=by kernel_rfl
def ZoU(cap:Nat):AFrame:={ fn:=153,N:=8,env:=[(0,AV.val (Go.Value.slice none 0 cap))],todo:=[.code a153.code],defs:=[],rnd:=none,ret:=false,res:=[ARes.tmp 2] }
def Zzt(cap:Nat):List AFrame:=[(ZoU cap)]
theorem Zpi(cap:Nat):Zat tab 153 [AV.val (Go.Value.slice none 0 cap)]=some (ZoU cap):=rfl
def Zqc(A:Ar)(K:KT)(F:FT)(cap:Nat):Prop:=F (AV.nils) (none)
theorem Zvn{A:Ar}{K:KT}{F:FT}{M:MT}{cap:Nat} :ZaK A tab Bi 153 K F M (.run 10 (.ty (.run 5 (.fn)))) (Zzt cap) []=Zqc A K F cap:=by kernel_rfl
def ZoG(ad:Go.Addr)(cap:Nat):AFrame:={ fn:=153,N:=8,env:=[(0,AV.val (Go.Value.slice (some ad) 0 cap))],todo:=[.code a153.code],defs:=[],rnd:=none,ret:=false,res:=[ARes.tmp 2] }
def ZBB(ad:Go.Addr)(cap:Nat):List AFrame:=[(ZoG ad cap)]
theorem Zqs(ad:Go.Addr)(cap:Nat):Zat tab 153 [AV.val (Go.Value.slice (some ad) 0 cap)]=some (ZoG ad cap):=rfl
def ZoZ(A:Ar)(K:KT)(F:FT)(ad:Go.Addr)(cap:Nat):Prop:=rB [List.all [] fun x=>AV.bx x&&Nat.beq (Zad A x) 2] (F (AV.row 0 0) (some { e:=78,sz:=2,r:=Row.gen [] }))
theorem Zuo{A:Ar}{K:KT}{F:FT}{M:MT}{ad:Go.Addr}{cap:Nat} :ZaK A tab Bi 153 K F M (.run 10 (.fy (.run 9 (.fn)))) (ZBB ad cap) []=ZoZ A K F ad cap:=by kernel_rfl
def Zsq(xs:List AV):AFrame:={ fn:=154,N:=8,env:=[(0,AV.list (Row.big (.agg [.int .i64, .bool]) xs))],todo:=[.code a154.code],defs:=[],rnd:=none,ret:=false,res:=[ARes.tmp 2] }
def ZDs(xs:List AV):List AFrame:=[(Zsq xs)]
theorem Zqy(xs:List AV):Zat tab 154 [AV.list (Row.big (.agg [.int .i64, .bool]) xs)]=some (Zsq xs):=rfl
def ZsV(A:Ar)(K:KT)(F:FT)(xs:List AV):Prop:=rB [Nat.blt 0 (A.lenA xs)] (rB [Nat.ble (0+A.lenA xs) 4294967296,List.all [] fun x=>AV.bx x&&Nat.beq (Zad A x) 2] (F (AV.row 0 0) (some { e:=129,sz:=2,r:=Row.big (.agg [.int .i64, .bool]) xs })))
theorem ZxY{A:Ar}{K:KT}{F:FT}{M:MT}{xs:List AV} :ZaK A tab Bi 154 K F M (.run 10 (.fy (.run 9 (.fn)))) (ZDs xs) []=ZsV A K F xs:=by kernel_rfl
def Zpf(cap:Nat):AFrame:={ fn:=154,N:=8,env:=[(0,AV.val (Go.Value.slice none 0 cap))],todo:=[.code a154.code],defs:=[],rnd:=none,ret:=false,res:=[ARes.tmp 2] }
def Zy0(cap:Nat):List AFrame:=[(Zpf cap)]
theorem ZoY(cap:Nat):Zat tab 154 [AV.val (Go.Value.slice none 0 cap)]=some (Zpf cap):=rfl
def Zpn(A:Ar)(K:KT)(F:FT)(cap:Nat):Prop:=F (AV.nils) (none)
theorem Zwt{A:Ar}{K:KT}{F:FT}{M:MT}{cap:Nat} :ZaK A tab Bi 154 K F M (.run 10 (.ty (.run 5 (.fn)))) (Zy0 cap) []=Zpn A K F cap:=by kernel_rfl
def Zpt(ad:Go.Addr)(cap:Nat):AFrame:={ fn:=154,N:=8,env:=[(0,AV.val (Go.Value.slice (some ad) 0 cap))],todo:=[.code a154.code],defs:=[],rnd:=none,ret:=false,res:=[ARes.tmp 2] }
def Zy8(ad:Go.Addr)(cap:Nat):List AFrame:=[(Zpt ad cap)]
theorem ZoD(ad:Go.Addr)(cap:Nat):Zat tab 154 [AV.val (Go.Value.slice (some ad) 0 cap)]=some (Zpt ad cap):=rfl
def Zql(A:Ar)(K:KT)(F:FT)(ad:Go.Addr)(cap:Nat):Prop:=rB [List.all [] fun x=>AV.bx x&&Nat.beq (Zad A x) 2] (F (AV.row 0 0) (some { e:=129,sz:=2,r:=Row.gen [] }))
theorem Zxu{A:Ar}{K:KT}{F:FT}{M:MT}{ad:Go.Addr}{cap:Nat} :ZaK A tab Bi 154 K F M (.run 10 (.fy (.run 9 (.fn)))) (Zy8 ad cap) []=Zql A K F ad cap:=by kernel_rfl
end Go.Proofs.YtkeoeooghhjibaaGreatDoor
/- Contracts as a list. No condition. -/
namespace Go.Proofs.YtkeoeooghhjibaaGreatDoor
theorem Zli(xs:List Int)(h:xs.length≤1000000):Zao Tryz.prog 140 [.list (.ints .i64 xs)] (.row 0 0) (some ⟨3,1, .ints .i64 xs⟩):=by
 by_cases h0:xs=[]
 ·subst h0
  refine Zfv rfl fun ad cap=>?_
  cases ad with
  |none=>exact Zjf (r0:=.nils) (start (Zph cap) fun C hC=>tgo hC ZhE ZwY (by simp[ZpV])) rfl rfl (by omega)
  |some ad=>exact Zjj (r:=.gen []) (start (ZpY ad cap) fun C hC=>tgo hC ZhE ZwO (by simp[Zpq])) (by omega) rfl
 ·have:=List.length_pos_iff.2 h0
  exact start (ZrV xs) fun C hC=>tgo hC ZhE ZA5 (by simp[Ztv];omega)
theorem ZkU(xs:List AV)(h:xs.length≤1000000):Zao Tryz.prog 153 [.list (.big (.agg [.int .i64, .int .i64]) xs)] (.row 0 0) (some ⟨78,2, .big (.agg [.int .i64, .int .i64]) xs⟩):=by
 by_cases h0:xs=[]
 ·subst h0
  refine Zfv rfl fun ad cap=>?_
  cases ad with
  |none=>exact Zjf (r0:=.nils) (start (Zpi cap) fun C hC=>tgo hC ZhE Zvn (by simp[Zqc])) rfl rfl (by omega)
  |some ad=>exact Zjj (r:=.gen []) (start (Zqs ad cap) fun C hC=>tgo hC ZhE Zuo (by simp[ZoZ])) (by omega) rfl
 ·have:=List.length_pos_iff.2 h0
  exact start (ZrS xs) fun C hC=>tgo hC ZhE ZzY (by simp[ZsP];omega)
theorem ZlH(xs:List AV)(h:xs.length≤1000000):Zao Tryz.prog 154 [.list (.big (.agg [.int .i64, .bool]) xs)] (.row 0 0) (some ⟨129,2, .big (.agg [.int .i64, .bool]) xs⟩):=by
 by_cases h0:xs=[]
 ·subst h0
  refine Zfv rfl fun ad cap=>?_
  cases ad with
  |none=>exact Zjf (r0:=.nils) (start (ZoY cap) fun C hC=>tgo hC ZhE Zwt (by simp[Zpn])) rfl rfl (by omega)
  |some ad=>exact Zjj (r:=.gen []) (start (ZoD ad cap) fun C hC=>tgo hC ZhE Zxu (by simp[Zql])) (by omega) rfl
 ·have:=List.length_pos_iff.2 h0
  exact start (Zqy xs) fun C hC=>tgo hC ZhE ZxY (by simp[ZsV];omega)
def k140:Ctr:=⟨140,0,fun _ a=>match a with |[.list (.ints .i64 xs)]=>some (decide (xs.length≤1000000), .row 0 0,some ⟨3,1, .ints .i64 xs⟩) |_=>none⟩
theorem Zux:k140.OK Tryz.prog:=fun pa args r fr h=>by
 simp only[k140]at h
 split at h
 ·simp only[Option.some.injEq,Prod.mk.injEq,decide_eq_true_eq]at h
  obtain⟨h0,rfl,rfl⟩:=h
  exact Zli _ h0
 ·cases h
def k153:Ctr:=⟨153,0,fun _ a=>match a with |[.list (.big (.agg [.int .i64, .int .i64]) xs)]=>some (decide (xs.length≤1000000), .row 0 0,some ⟨78,2, .big (.agg [.int .i64, .int .i64]) xs⟩) |_=>none⟩
theorem Zxr:k153.OK Tryz.prog:=fun pa args r fr h=>by
 simp only[k153]at h
 split at h
 ·simp only[Option.some.injEq,Prod.mk.injEq,decide_eq_true_eq]at h
  obtain⟨h0,rfl,rfl⟩:=h
  exact ZkU _ h0
 ·cases h
def k154:Ctr:=⟨154,0,fun _ a=>match a with |[.list (.big (.agg [.int .i64, .bool]) xs)]=>some (decide (xs.length≤1000000), .row 0 0,some ⟨129,2, .big (.agg [.int .i64, .bool]) xs⟩) |_=>none⟩
theorem Zwy:k154.OK Tryz.prog:=fun pa args r fr h=>by
 simp only[k154]at h
 split at h
 ·simp only[Option.some.injEq,Prod.mk.injEq,decide_eq_true_eq]at h
  obtain⟨h0,rfl,rfl⟩:=h
  exact ZlH _ h0
 ·cases h
def Bj:List Ctr:=[k140,k153,k154]++Bi
theorem ZEe:ZaD Tryz.prog Bj:=⟨Zux,⟨Zxr,⟨Zwy,ZhE⟩⟩⟩
end Go.Proofs.YtkeoeooghhjibaaGreatDoor
/- Contracts as a list. No condition. -/
namespace Go.Proofs.YtkeoeooghhjibaaGreatDoor
def Zve(ks l:List AV):Nat→Nat→Int→Int
 |0,_,a=>a
 |m+1,i,a=>Zve ks l m (i+1) (exM ks a (Zaj l i 0))
def Zm9(l dn:List AV):Nat→Nat→List Int→List Int
 |0,_,xs=>xs
 |m+1,i,xs=>Zm9 l dn m (i+1) (xs.set (Zaj l i 0).toNat (Zaj dn i 1))
def Bk:List Ctr:=Bj
theorem ZDT:ZaD Tryz.prog Bk:=ZEe
end Go.Proofs.YtkeoeooghhjibaaGreatDoor
/- Contracts as a list. No condition. -/
namespace Go.Proofs.YtkeoeooghhjibaaGreatDoor
def m0L(ks l dn:List AV)(i:Nat):List Int:=Zm9 l dn i 0 (List.replicate ks.length (-1))
def m0A(ks l:List AV)(i:Nat):Int:=Zve ks l i 0 0
def Zc1(rs ks l dn:List AV)(at0:Int):Nat→Nat→Int
 |0,_=>0
 |m+1,i=>if Zaj dn i 0=i∧Zaj dn i 1≤at0∧(0<i→Zaj dn (i-1:Nat) 1≤Zaj dn i 1)then
   (if ZdB rs (m0A ks l i) (Zaj dn i 1) (m0L ks l dn i) (Zaj l i 0) (Zaj l i 1) (Zaj l i 2)=true then Zc1 rs ks l dn at0 m (i+1)else 26)
  else 9
def Zdf(n:Int):List Int→Int
 |[]=>0
 |x::xs=>if Zab x 0 (n-1)=true then Zdf n xs else 6
def upR(n:Int)(ha:Bool):List AV→Int
 |[]=>0
 |x::xs=>if Zab (x.cellAt 0).toI 0 n=true then(if (x.cellAt 1).toB=true∧¬(ha=true∧(x.cellAt 0).toI=n)then 3 else upR n ha xs)else 2
def ZnU(ks l:List AV)(mo:Int)(dn:List AV)(ha:Bool)(ba:Int)(to:Bool)(dw:List Int)(up:List AV):Int:=
 if mo=m0A ks l dn.length then
  (if ha=true∧dn.length=l.length then 21 else
    (if Zab ba 0 dn.length=true then
      (if to=true∧¬(ha=true∧ba=dn.length)then 3 else
        (if Zdf l.length dw=0 then upR dn.length ha up else Zdf l.length dw))
    else 2))
 else 3
def stE(ks rs l:List AV)(fl at0 mo:Int)(dn:List AV)(ha:Bool)(ba:Int)(to:Bool)(dw:List Int)(up:List AV):Int:=
 if Zab at0 0 1000000000000=true then
  (if dn.length≤l.length∧(dw.length:Int)≤fl∧(up.length:Int)≤fl then
    (if Zc1 rs ks l dn at0 dn.length 0=0 then ZnU ks l mo dn ha ba to dw up else Zc1 rs ks l dn at0 dn.length 0)
  else 8)
 else 2
theorem ZjO(ks l:List AV):∀(m i:Nat) (a:Int),Zve ks l (m+1) i a=exM ks (Zve ks l m i a) (Zaj l (i+m:Nat) 0)
 |0,i,a=>rfl
 |m+1,i,a=>by
  rw[Zve,ZjO ks l m (i+1),Zve,show i+1+m=i+(m+1) by omega]
theorem ZkL(l dn:List AV):∀(m i:Nat) (xs:List Int),Zm9 l dn (m+1) i xs=(Zm9 l dn m i xs).set (Zaj l (i+m:Nat) 0).toNat (Zaj dn (i+m:Nat) 1)
 |0,i,xs=>rfl
 |m+1,i,xs=>by
  rw[Zm9,ZkL l dn m (i+1),Zm9,show i+1+m=i+(m+1) by omega]
theorem ZjL(l dn:List AV)(n:Nat):∀(m i:Nat) (xs:List Int),i+m≤n→Zm9 l (dn.take n) m i xs=Zm9 l dn m i xs
 |0,i,xs,_=>rfl
 |m+1,i,xs,h=>by
  rw[Zm9,Zm9,ZjL l dn n m (i+1) _ (by omega)]
  have:Zaj (dn.take n) i 1=Zaj dn i 1:=by
   unfold Zaj
   rw[List.getD_eq_getElem?_getD,List.getD_eq_getElem?_getD,Int.toNat_natCast,List.getElem?_take,if_pos (by omega)]
  rw[this]
theorem Zgn(ks l:List AV)(i:Nat):m0A ks l (i+1)=exM ks (m0A ks l i) (Zaj l i 0):=by
 unfold m0A;rw[ZjO,Nat.zero_add]
theorem ZdY(ks l dn:List AV)(i:Nat):m0L ks l dn (i+1)=(m0L ks l dn i).set (Zaj l i 0).toNat (Zaj dn i 1):=by
 unfold m0L;rw[ZkL,Nat.zero_add]
def m0T(dn:List AV):Nat→Int
 |0=>0
 |i+1=>Zaj dn i 1
theorem okD{ms ks rs l:List AV}(hf:OkF ms ks rs l)(dn:List AV){i:Nat}(h:OkT ks (m0T dn i) (m0L ks l dn i)){at0:Int}(hat:at0≤1000000000000)(h1:Zaj dn i 1≤at0)(h2:0<i→Zaj dn (i-1:Nat) 1≤Zaj dn i 1)(hw:Zab (Zaj dn i 1) (Zaj l i 1) (Zaj l i 2)=true)(hl:i<l.length):
 ZbS rs (Zaj dn i 1) (m0L ks l dn i)=true∧OkT ks (m0T dn (i+1)) (m0L ks l dn (i+1)):=by
 have hw:=within_iff.1 hw
 obtain⟨_,hb,_⟩:=hf.act i hl
 have hge:m0T dn i≤Zaj dn i 1:=by
  cases i with
  |zero=>simp only[m0T];omega
  |succ i=>have:=h2 (by omega);simpa[m0T]using this
 refine⟨h.forb (ms:=ms) (l:=l) hf hge (by omega),?_⟩
 rw[ZdY]
 exact h.set hge (by omega) _
theorem ZGt(ks l dn:List AV):OkT ks (m0T dn 0) (m0L ks l dn 0):=⟨by simp[m0L,Zm9],fun x hx=>by simp[m0L,Zm9]at hx;rw[hx.2];simp[m0T],by simp[m0T],by simp[m0T]⟩
theorem Zbl{ms ks rs l:List AV}{wn fl:Int}(h:upE ms ks rs l wn fl=0):OkF ms ks rs l∧(1≤wn∧wn≤6)∧1≤fl∧fl≤6:=by
 unfold upE at h
 split at h
 ·rename_i hf
  split at h
  ·rename_i hw
   have h1:=within_iff.1 hw.1
   have h2:=within_iff.1 hw.2
   exact⟨okF hf,h1,h2⟩
  ·cases h
 ·rename_i hf;exact absurd h hf
section
variable {C:Ctx}(hC:C.P=Tryz.prog)(ms ks rs l:List AV)(wn fl:Int)(at0 mo:Int)(dn:List AV)(ha:Bool)(ba:Int)(to:Bool)(dw:List Int)(up:List AV)
include hC
end
def Bl:List Ctr:=Bk
theorem ZDq:ZaD Tryz.prog Bl:=ZDT
end Go.Proofs.YtkeoeooghhjibaaGreatDoor
/- Contracts as a list. No condition. -/
namespace Go.Proofs.YtkeoeooghhjibaaGreatDoor
theorem Zp4{P:Program}{f:FuncId}{args args':List AV}{r:AV}{fr:Option Fresh}(h:Zao P f args r fr)(hw:WkA args' args):Zao P f args' r fr:=fun w okA L vs hargs hok=>
 h w okA L vs ⟨by rw[←hw.spec.1];exact hargs.1,fun j y v hy hv=>by
  have hj:j<args'.length:=by rw[hw.spec.1];exact(List.getElem?_eq_some_iff.1 hy).1
  exact(hw.spec.2 j _ y (List.getElem?_eq_getElem hj) hy).rel (hargs.2 j _ v (List.getElem?_eq_getElem hj) hv)⟩ hok
theorem ZGi(a b c d e:Int):([AV.int .i64 a,AV.int .i64 b,AV.int .i64 c,AV.int .i64 d,AV.int .i64 e].all fun x=>AV.bx x&&Nat.beq (Zad std x) 1)=true:=rfl
section
variable {C:Ctx}(hC:C.P=Tryz.prog)(ms ks rs l:List AV)(wn fl:Int)(at0 mo:Int)(dn:List AV)(ha:Bool)(ba:Int)(to:Bool)(dw:List Int)(up:List AV)
include hC
end
def Zrm(mo n3:Int)(ha:Bool)(d ll ba:Int)(to:Bool):Int:=if mo=n3 then(if ha=true∧¬d<ll then 21 else if Zab ba 0 d=true then(if to=true∧¬(ha=true∧ba=d)then 3 else 0)else 2)else 3
section
variable {C:Ctx}(hC:C.P=Tryz.prog)(ms ks rs l:List AV)(wn fl:Int)(at0 mo:Int)(dn:List AV)(ha:Bool)(ba:Int)(to:Bool)(dw:List Int)(up:List AV)
include hC
end
theorem ZqK(ks l:List AV)(mo:Int)(dn:List AV)(ha:Bool)(ba:Int)(to:Bool)(dw:List Int)(up:List AV)(h:dn.length≤l.length):(if Zrm mo (m0A ks l dn.length) ha dn.length l.length ba to=0 then(if Zdf l.length dw=0 then upR dn.length ha up else Zdf l.length dw)else Zrm mo (m0A ks l dn.length) ha dn.length l.length ba to)=ZnU ks l mo dn ha ba to dw up:=by
 unfold Zrm ZnU
 by_cases g1:mo=m0A ks l dn.length
 ·by_cases g2:ha=true∧dn.length=l.length
  ·have g2':ha=true∧¬(dn.length:Int)<l.length:=⟨g2.1,by omega⟩
   simp only[if_pos g1,if_pos g2,if_pos g2'];rfl
  ·have g2':¬(ha=true∧¬(dn.length:Int)<l.length):=fun hh=>g2 ⟨hh.1,by omega⟩
   by_cases g3:Zab ba 0 dn.length=true
   ·by_cases g4:to=true∧¬(ha=true∧ba=dn.length)
    ·simp only[if_pos g1,if_neg g2,if_neg g2',if_pos g3,if_pos g4];rfl
    ·simp only[if_pos g1,if_neg g2,if_neg g2',if_pos g3,if_neg g4,if_true]
   ·simp only[if_pos g1,if_neg g2,if_neg g2',if_neg g3];rfl
 ·simp only[if_neg g1];rfl
section
variable {C:Ctx}(hC:C.P=Tryz.prog)(ms ks rs l:List AV)(wn fl:Int)(at0 mo:Int)(dn:List AV)(ha:Bool)(ba:Int)(to:Bool)(dw:List Int)(up:List AV)
include hC
end
def Bm:List Ctr:=Bl
theorem ZEl:ZaD Tryz.prog Bm:=ZDq
end Go.Proofs.YtkeoeooghhjibaaGreatDoor
/- Contracts as a list. No condition. -/
namespace Go.Proofs.YtkeoeooghhjibaaGreatDoor
def k81o:Ctr:=⟨81,0,fun _ a=>match a with |[.list (.ints .i64 xs)]=>some (decide (xs.length≤1000000), .row 0 0,some ⟨3,1, .ints .i64 xs⟩) |_=>none⟩
theorem Zxz:k81o.OK Tryz.prog:=fun pa args r fr h=>by
 simp only[k81o]at h
 split at h
 ·simp only[Option.some.injEq,Prod.mk.injEq,decide_eq_true_eq]at h
  obtain⟨h0,rfl,rfl⟩:=h
  exact ZgX _ h0
 ·cases h
def k83:Ctr:=⟨83,0,fun _ a=>match a with |[]=>some (true,(.agg (.gen [(.str [112,97,115,115]),(.int .i64 1),(.int .i64 1000000000000),(.fn 127 []),(.str [115,101,110,100]),(.int .i64 0),(.int .i64 11),(.fn 128 []),(.str [97,114,114,105,118,101]),(.int .i64 0),(.int .i64 5),(.fn 129 []),(.str [104,101,97,114]),(.int .i64 0),(.int .i64 5),(.fn 130 []),(.str [108,111,115,101]),(.int .i64 0),(.int .i64 5),(.fn 131 []),(.str [100,114,111,112]),(.int .i64 0),(.int .i64 5),(.fn 132 []),(.str [114,101,112,101,97,116]),(.int .i64 0),(.int .i64 5),(.fn 133 []),(.str [114,101,115,116,97,114,116]),(.int .i64 0),(.int .i64 0),(.fn 134 []),(.str [114,101,98,111,111,116]),(.int .i64 0),(.int .i64 0),(.fn 135 [])])),none) |_=>none⟩
theorem ZzD:k83.OK Tryz.prog:=fun pa args r fr h=>by
 simp only[k83]at h
 split at h
 ·cases h
  exact Zcu
 ·cases h
def Bn:List Ctr:=[k81o,k83]++Bm
theorem Zdg:ZaD Tryz.prog Bn:=⟨Zxz,⟨ZzD,ZEl⟩⟩
end Go.Proofs.YtkeoeooghhjibaaGreatDoor
/- What an event does to a state, and that it leaves it valid: plain. No condition. -/
namespace Go.Proofs.YtkeoeooghhjibaaGreatDoor
structure ST where
 t:Int
 mo:Int
 dn:List AV
 ha:Bool
 ba:Int
 to:Bool
 dw:List Int
 up:List AV
def dnV(a t:Int):AV:=.agg (.gen [.int .i64 a, .int .i64 t])
def upV(n:Int)(h:Bool):AV:=.agg (.gen [.int .i64 n, .bool h])
def ZbZ{α:Type}(l:List α)(n:Int):List α:=l.take n.toNat++l.drop (n.toNat+1)
def ZxJ(fl:Int)(n:Nat)(h:Bool)(up:List AV):List AV:=if(up.length:Int)<fl then up++[upV n h]else up
def ZkC(ks rs l:List AV)(s:ST):Bool:=ZdB rs (m0A ks l s.dn.length) s.t (m0L ks l s.dn s.dn.length) (Zaj l s.dn.length 0) (Zaj l s.dn.length 1) (Zaj l s.dn.length 2)
def Zh7(ks rs l:List AV)(s:ST)(a:Int):ST:=if s.ha=false∧a=s.dn.length then(if ZkC ks rs l s=true then { s with dn:=s.dn++[dnV a s.t],mo:=m0A ks l (s.dn.length+1) }else { s with ha:=true })else s
def Zed(fl:Int)(s:ST):ST:={ s with up:=ZxJ fl s.dn.length s.ha s.up }
def ZbW(l:List AV)(wn fl:Int)(s:ST)(k n:Int):Int:=
 if k=0 then(if n>1000000000000-s.t then 2 else 0)else
 if k=1 then(if n<l.length then(if s.to=true then 21 else if Zab n s.ba (s.ba+wn-1)=true then(if (s.dw.length:Int)<fl then 0 else 16)else 26)else 6)else
 if k=2∨k=4 then(if n<s.dw.length then 0 else 6)else
 if k=3∨k=5 then(if n<s.up.length then 0 else 6)else
 if k=6 then(if n<s.dw.length then(if (s.dw.length:Int)<fl then 0 else 16)else 6)else 0
def appS(ks rs l:List AV)(fl:Int)(s:ST)(k n:Int):ST:=
 if k=0 then { s with t:=s.t+n }else
 if k=1 then { s with dw:=s.dw++[n] }else
 if k=2 then Zed fl (Zh7 ks rs l { s with dw:=ZbZ s.dw n } (s.dw.getD n.toNat 0))else
 if k=3 then { s with up:=ZbZ s.up n,ba:=max s.ba (Zaj s.up n 0),to:=s.to||((s.up.getD n.toNat .top).cellAt 1).toB }else
 if k=4 then { s with dw:=ZbZ s.dw n }else
 if k=5 then { s with up:=ZbZ s.up n }else
 if k=6 then { s with dw:=s.dw++[s.dw.getD n.toNat 0] }else
 if k=7 then { s with ba:=0,to:=false }else Zed fl s
def ZBS(ks rs l dn:List AV)(t:Int)(i:Nat):Prop:=Zaj dn i 0=i∧Zaj dn i 1≤t∧(0<i→Zaj dn (i-1:Nat) 1≤Zaj dn i 1)∧ZdB rs (m0A ks l i) (Zaj dn i 1) (m0L ks l dn i) (Zaj l i 0) (Zaj l i 1) (Zaj l i 2)=true
structure VS (ks rs l:List AV) (fl:Int) (s:ST):Prop where
 t:0≤s.t∧s.t≤1000000000000
 len:s.dn.length≤l.length∧(s.dw.length:Int)≤fl∧(s.up.length:Int)≤fl
 done:∀i,i<s.dn.length→ZBS ks rs l s.dn s.t i
 mode:s.mo=m0A ks l s.dn.length
 halt:s.ha=true→s.dn.length≠l.length
 base:0≤s.ba∧s.ba≤s.dn.length
 told:s.to=true→s.ha=true∧s.ba=s.dn.length
 down:∀x∈s.dw,0≤x∧x≤(l.length:Int)-1
 up:∀x∈s.up,(0≤(x.cellAt 0).toI∧(x.cellAt 0).toI≤s.dn.length)∧((x.cellAt 1).toB=true→s.ha=true∧(x.cellAt 0).toI=s.dn.length)
theorem Zfg{rs ks l dn:List AV}{t:Int} :∀(m i:Nat),Zc1 rs ks l dn t m i=0↔∀j,i≤j→j<i+m→ZBS ks rs l dn t j
 |0,i=>⟨fun _ j h1 h2=>by omega,fun _=>rfl⟩
 |m+1,i=>by
  have ih:=Zfg (rs:=rs) (ks:=ks) (l:=l) (dn:=dn) (t:=t) m (i+1)
  rw[Zc1]
  constructor
  ·intro h j h1 h2
   split at h
   ·rename_i hc
    split at h
    ·rename_i ha
     by_cases hj:j=i
     ·subst hj;exact⟨hc.1,hc.2.1,hc.2.2,ha⟩
     ·exact ih.1 h j (by omega) (by omega)
    ·cases h
   ·cases h
  ·intro h
   obtain⟨a,b,c,d⟩:=h i (by omega) (by omega)
   rw[if_pos ⟨a,b,c⟩,if_pos d]
   exact ih.2 fun j h1 h2=>h j (by omega) (by omega)
theorem downR_zero{n:Int} :∀ {xs:List Int},Zdf n xs=0↔∀x∈xs,0≤x∧x≤n-1
 |[]=>⟨fun _ x h=>(by cases h),fun _=>rfl⟩
 |x::xs=>by
  have ih:=downR_zero (n:=n) (xs:=xs)
  rw[Zdf]
  constructor
  ·intro h
   split at h
   ·rename_i hw
    have hw:=within_iff.1 hw
    intro y hy
    rcases List.mem_cons.1 hy with rfl |hy
    ·exact hw
    ·exact ih.1 h y hy
   ·cases h
  ·intro h
   rw[if_pos (within_iff.2 (h x List.mem_cons_self))]
   exact ih.2 fun y hy=>h y (List.mem_cons_of_mem _ hy)
theorem upR_zero{n:Int}{ha:Bool} :∀ {xs:List AV},upR n ha xs=0↔∀x∈xs,(0≤(x.cellAt 0).toI∧(x.cellAt 0).toI≤n)∧((x.cellAt 1).toB=true→ha=true∧(x.cellAt 0).toI=n)
 |[]=>⟨fun _ x h=>(by cases h),fun _=>rfl⟩
 |x::xs=>by
  have ih:=upR_zero (n:=n) (ha:=ha) (xs:=xs)
  rw[upR]
  constructor
  ·intro h
   split at h
   ·rename_i hw
    have hw:=within_iff.1 hw
    split at h
    ·cases h
    ·rename_i hc
     intro y hy
     rcases List.mem_cons.1 hy with rfl |hy
     ·exact⟨hw,fun hb=>Classical.byContradiction fun hn=>hc ⟨hb,hn⟩⟩
     ·exact ih.1 h y hy
   ·cases h
  ·intro h
   obtain⟨h1,h2⟩:=h x List.mem_cons_self
   rw[if_pos (within_iff.2 h1),if_neg (fun hc=>hc.2 (h2 hc.1))]
   exact ih.2 fun y hy=>h y (List.mem_cons_of_mem _ hy)
theorem ZnD{ks l:List AV}{mo:Int}{dn:List AV}{ha:Bool}{ba:Int}{to:Bool}{dw:List Int}{up:List AV} :ZnU ks l mo dn ha ba to dw up=0↔mo=m0A ks l dn.length∧(ha=true→dn.length≠l.length)∧(0≤ba∧ba≤dn.length)∧(to=true→ha=true∧ba=dn.length)∧Zdf l.length dw=0∧upR dn.length ha up=0:=by
 unfold ZnU
 by_cases h1:mo=m0A ks l dn.length
 ·rw[if_pos h1]
  by_cases h2:ha=true∧dn.length=l.length
  ·rw[if_pos h2]
   exact⟨fun h=>(by cases h),fun h=>absurd h2.2 (h.2.1 h2.1)⟩
  ·rw[if_neg h2]
   by_cases h3:Zab ba 0 dn.length=true
   ·rw[if_pos h3]
    have h3:=within_iff.1 h3
    by_cases h4:to=true∧¬(ha=true∧ba=dn.length)
    ·rw[if_pos h4]
     exact⟨fun h=>(by cases h),fun h=>absurd (h.2.2.2.1 h4.1) h4.2⟩
    ·rw[if_neg h4]
     have h2':ha=true→dn.length≠l.length:=fun a b=>h2 ⟨a,b⟩
     have h4':to=true→ha=true∧ba=dn.length:=fun a=>Classical.byContradiction fun b=>h4 ⟨a,b⟩
     by_cases h5:Zdf l.length dw=0
     ·rw[if_pos h5]
      exact⟨fun h=>⟨h1,h2',h3,h4',h5,h⟩,fun h=>h.2.2.2.2.2⟩
     ·rw[if_neg h5]
      exact⟨fun h=>absurd h h5,fun h=>absurd h.2.2.2.2.1 h5⟩
   ·rw[if_neg h3]
    exact⟨fun h=>(by cases h),fun h=>absurd (within_iff.2 h.2.2.1) h3⟩
 ·rw[if_neg h1]
  exact⟨fun h=>(by cases h),fun h=>absurd h.1 h1⟩
theorem vs_iff{ks rs l:List AV}{fl:Int}{s:ST} :stE ks rs l fl s.t s.mo s.dn s.ha s.ba s.to s.dw s.up=0↔VS ks rs l fl s:=by
 unfold stE
 by_cases h1:Zab s.t 0 1000000000000=true
 ·rw[if_pos h1]
  have h1:=within_iff.1 h1
  by_cases h2:s.dn.length≤l.length∧(s.dw.length:Int)≤fl∧(s.up.length:Int)≤fl
  ·rw[if_pos h2]
   by_cases h3:Zc1 rs ks l s.dn s.t s.dn.length 0=0
   ·rw[if_pos h3,ZnD]
    have h3:=(Zfg _ _).1 h3
    constructor
    ·rintro⟨a,b,c,d,e,f⟩
     exact⟨h1,h2,fun i hi=>h3 i (by omega) (by omega),a,b,c,d,downR_zero.1 e,upR_zero.1 f⟩
    ·intro h
     exact⟨h.mode,h.halt,h.base,h.told,downR_zero.2 h.down,upR_zero.2 h.up⟩
   ·rw[if_neg h3]
    exact⟨fun h=>absurd h h3,fun h=>absurd ((Zfg _ _).2 fun j _ hj=>h.done j (by omega)) h3⟩
  ·rw[if_neg h2]
   exact⟨fun h=>(by cases h),fun h=>absurd h.len h2⟩
 ·rw[if_neg h1]
  exact⟨fun h=>(by cases h),fun h=>absurd (within_iff.2 h.t) h1⟩
theorem Zd2{xs:List AV}{x:AV}{i k:Nat}(h:i<xs.length):Zaj (xs++[x]) i k=Zaj xs i k:=by
 unfold Zaj
 rw[List.getD_eq_getElem?_getD,List.getD_eq_getElem?_getD,Int.toNat_natCast,List.getElem?_append_left h]
theorem ZeB{xs:List AV}{x:AV}{k:Nat} :Zaj (xs++[x]) xs.length k=(x.cellAt k).toI:=by
 unfold Zaj
 rw[List.getD_eq_getElem?_getD,Int.toNat_natCast,List.getElem?_append_right (Nat.le_refl _),Nat.sub_self];rfl
theorem ZoT{ks l dn:List AV}{x:AV}{i:Nat}(h:i≤dn.length):m0L ks l (dn++[x]) i=m0L ks l dn i:=by
 unfold m0L
 rw[←ZjL l (dn++[x]) dn.length i 0 _ (by omega),List.take_left]
theorem ZrH{ks rs l dn:List AV}{x:AV}{t:Int}{i:Nat}(h:i<dn.length)(hd:ZBS ks rs l dn t i):ZBS ks rs l (dn++[x]) t i:=by
 obtain⟨a,b,c,d⟩:=hd
 refine⟨by rw[Zd2 h];exact a,by rw[Zd2 h];exact b,fun hi=>by rw[Zd2 h,Zd2 (by omega)];exact c hi,by rw[Zd2 h,ZoT (by omega)];exact d⟩
theorem Zl0{α:Type}{l:List α}{n:Int}{x:α}(h:x∈ZbZ l n):x∈l:=by
 unfold ZbZ at h
 rcases List.mem_append.1 h with h |h
 ·exact List.mem_of_mem_take h
 ·exact List.mem_of_mem_drop h
theorem ZmI{α:Type}(l:List α)(n:Int):(ZbZ l n).length≤l.length:=by
 unfold ZbZ
 simp only[List.length_append,List.length_take,List.length_drop];omega
theorem Ztw{ks rs l:List AV}{fl:Int}{s:ST}(h:VS ks rs l fl s):VS ks rs l fl (Zed fl s):=by
 unfold Zed ZxJ
 split
 ·rename_i hu
  refine⟨h.t,⟨h.len.1,h.len.2.1,?_⟩,h.done,h.mode,h.halt,h.base,h.told,h.down,fun x hx=>?_⟩
  ·simp only[List.length_append,List.length_cons,List.length_nil];omega
  ·rcases List.mem_append.1 hx with hx |hx
   ·exact h.up x hx
   ·simp only[List.mem_singleton]at hx
    subst hx
    exact⟨⟨by simp[upV,AV.cellAt,AV.toI],by simp[upV,AV.cellAt,AV.toI]⟩,fun hb=>⟨by simpa[upV,AV.cellAt,AV.toB]using hb,by simp[upV,AV.cellAt,AV.toI]⟩⟩
 ·exact h
theorem ZB4{ks rs l:List AV}{fl:Int}{s:ST}(h:VS ks rs l fl s){a:Int}(ha:0≤a∧a≤(l.length:Int)-1):VS ks rs l fl (Zh7 ks rs l s a):=by
 unfold Zh7
 split
 ·rename_i hc
  obtain⟨hc1,hc2⟩:=hc
  have hto:s.to=false:=by
   cases ht:s.to
   ·rfl
   ·have:=(h.told ht).1;rw[hc1]at this;cases this
  have hu:∀x∈s.up,(x.cellAt 1).toB=false:=fun x hx=>by
   cases hb:(x.cellAt 1).toB
   ·rfl
   ·have:=((h.up x hx).2 hb).1;rw[hc1]at this;cases this
  have hlt:s.dn.length<l.length:=by omega
  split
  ·rename_i hn
   refine⟨h.t,⟨?_,h.len.2⟩,fun i hi=>?_,?_,fun hh=>?_,⟨h.base.1,?_⟩,fun hh=>?_,h.down,fun x hx=>?_⟩
   ·simp only[List.length_append,List.length_cons,List.length_nil];omega
   ·simp only[List.length_append,List.length_cons,List.length_nil]at hi
    by_cases hi2:i<s.dn.length
    ·exact ZrH hi2 (h.done i hi2)
    ·obtain rfl:i=s.dn.length:=by omega
     refine⟨by rw[ZeB];exact hc2.symm▸rfl,by rw[ZeB];exact Int.le_refl _,fun h0=>?_,?_⟩
     ·rw[ZeB,Zd2 (by omega)]
      exact(h.done (s.dn.length-1) (by omega)).2.1
     ·rw[ZeB,ZoT (Nat.le_refl _)]
      exact hn
   ·simp
   ·rw[show s.ha=true from hh]at hc1;cases hc1
   ·simp only[List.length_append,List.length_cons,List.length_nil];have:=h.base.2;omega
   ·rw[show s.to=true from hh]at hto;cases hto
   ·obtain⟨g1,_⟩:=h.up x hx
    refine⟨⟨g1.1,?_⟩,fun hb=>by rw[hu x hx]at hb;cases hb⟩
    simp only[List.length_append,List.length_cons,List.length_nil];omega
  ·exact⟨h.t,h.len,h.done,h.mode,fun _=>by show s.dn.length≠l.length;omega,h.base,fun hh=>(by rw[show s.to=true from hh]at hto;cases hto),h.down,fun x hx=>⟨(h.up x hx).1,fun hb=>by rw[hu x hx]at hb;cases hb⟩⟩
 ·exact h
theorem Zgm{α:Type}{xs:List α}{n:Nat}{d:α}(h:n<xs.length):xs.getD n d∈xs:=by
 rw[List.getD_eq_getElem?_getD,List.getElem?_eq_getElem h];exact List.getElem_mem h
theorem ZpU{ks rs l:List AV}{wn fl:Int}{s:ST}{k n:Int}(h:VS ks rs l fl s)(hv:evE k n=0)(he:ZbW l wn fl s k n=0):VS ks rs l fl (appS ks rs l fl s k n):=by
 have hv0:Zab k 0 8=true:=by
  unfold evE at hv
  split at hv
  ·assumption
  ·cases hv
 unfold evE at hv
 rw[if_pos hv0]at hv
 unfold appS
 unfold ZbW at he
 split
 ·rename_i h0
  rw[if_pos h0]at hv he
  have hv:=within_iff.1 (ZaN hv (by decide))
  have hn:s.t+n≤1000000000000:=by
   split at he
   ·cases he
   ·omega
  refine⟨⟨by show 0≤s.t+n;have:=h.t;omega,hn⟩,h.len,fun i hi=>?_,h.mode,h.halt,h.base,h.told,h.down,h.up⟩
  obtain⟨a,b,c,d⟩:=h.done i hi
  exact⟨a,by show Zaj s.dn i 1≤s.t+n;omega,c,d⟩
 rename_i h0
 rw[if_neg h0]at hv he
 split
 ·rename_i h1
  rw[if_pos h1]at hv he
  have hv:=within_iff.1 (ZaN hv (by decide))
  split at he
  ·rename_i hl
   split at he
   ·cases he
   ·split at he
    ·split at he
     ·rename_i hd
      refine⟨h.t,⟨h.len.1,?_,h.len.2.2⟩,h.done,h.mode,h.halt,h.base,h.told,fun x hx=>?_,h.up⟩
      ·simp only[List.length_append,List.length_cons,List.length_nil];omega
      ·rcases List.mem_append.1 hx with hx |hx
       ·exact h.down x hx
       ·simp only[List.mem_singleton]at hx;subst hx;omega
     ·cases he
    ·cases he
  ·cases he
 rename_i h1
 rw[if_neg h1]at hv he
 have cutD:VS ks rs l fl { s with dw:=ZbZ s.dw n } :=⟨h.t,⟨h.len.1,by have:=ZmI s.dw n;have:=h.len.2.1;show((ZbZ s.dw n).length:Int)≤fl;omega,h.len.2.2⟩,h.done,h.mode,h.halt,h.base,h.told,fun x hx=>h.down x (Zl0 hx),h.up⟩
 have cutU:∀x∈ZbZ s.up n,x∈s.up:=fun x hx=>Zl0 hx
 have cutUl:((ZbZ s.up n).length:Int)≤fl:=by have:=ZmI s.up n;have:=h.len.2.2;omega
 have pos:Zab k 2 6=true→0≤n:=fun hk=>by
  rw[if_pos hk]at hv
  exact(within_iff.1 (ZaN hv (by decide))).1
 split
 ·rename_i h2
  rw[if_pos (.inl h2)]at he
  have hn0:=pos (within_iff.2 (by omega))
  split at he
  ·rename_i hd
   exact Ztw (ZB4 cutD (h.down _ (Zgm (by omega))))
  ·cases he
 rename_i h2
 split
 ·rename_i h3
  rw[if_neg (by omega),if_pos (.inl h3)]at he
  have hn0:=pos (within_iff.2 (by omega))
  split at he
  ·rename_i hu
   have hlt:n.toNat<s.up.length:=by omega
   obtain⟨⟨g1,g2⟩,g3⟩:=h.up _ (Zgm (d:=.top) hlt)
   have e0:Zaj s.up n 0=((s.up.getD n.toNat .top).cellAt 0).toI:=rfl
   have hb:=h.base
   refine⟨h.t,⟨h.len.1,h.len.2.1,cutUl⟩,h.done,h.mode,h.halt,?_,fun ht=>?_,h.down,fun x hx=>h.up x (cutU x hx)⟩
   ·show 0≤max s.ba (Zaj s.up n 0)∧max s.ba (Zaj s.up n 0)≤s.dn.length
    rw[e0];omega
   ·show s.ha=true∧max s.ba (Zaj s.up n 0)=s.dn.length
    rw[e0]
    have ht:(s.to||((s.up.getD n.toNat .top).cellAt 1).toB)=true:=ht
    rw[Bool.or_eq_true]at ht
    rcases ht with ht |ht
    ·obtain⟨k1,k2⟩:=h.told ht
     exact⟨k1,by omega⟩
    ·obtain⟨k1,k2⟩:=g3 ht
     exact⟨k1,by omega⟩
  ·cases he
 rename_i h3
 split
 ·exact cutD
 rename_i h4
 split
 ·exact⟨h.t,⟨h.len.1,h.len.2.1,cutUl⟩,h.done,h.mode,h.halt,h.base,h.told,h.down,fun x hx=>h.up x (cutU x hx)⟩
 rename_i h5
 split
 ·rename_i h6
  rw[if_neg (by omega),if_neg (by omega),if_pos h6]at he
  have hn0:=pos (within_iff.2 (by omega))
  split at he
  ·split at he
   ·refine⟨h.t,⟨h.len.1,?_,h.len.2.2⟩,h.done,h.mode,h.halt,h.base,h.told,fun x hx=>?_,h.up⟩
    ·simp only[List.length_append,List.length_cons,List.length_nil];omega
    ·rcases List.mem_append.1 hx with hx |hx
     ·exact h.down x hx
     ·simp only[List.mem_singleton]at hx;subst hx;exact h.down _ (Zgm (by omega))
   ·cases he
  ·cases he
 split
 ·exact⟨h.t,h.len,h.done,h.mode,h.halt,⟨Int.le_refl 0,by show(0:Int)≤s.dn.length;omega⟩,fun ht=>(by cases ht),h.down,h.up⟩
 ·exact Ztw h
end Go.Proofs.YtkeoeooghhjibaaGreatDoor
/- Contracts as a list. No condition. -/
namespace Go.Proofs.YtkeoeooghhjibaaGreatDoor
def st0:ST:=⟨0,0,[],false,0,false,[],[]⟩
def Zlf(ks rs l:List AV)(wn fl:Int)(s:ST)(k n:Int):ST:=if ZbW l wn fl s k n=0 then appS ks rs l fl s k n else st0
structure OkA (ms ks rs l:List AV) (wn fl:Int) (s:ST) (k n:Int):Prop where
 u:upE ms ks rs l wn fl=0
 s:stE ks rs l fl s.t s.mo s.dn s.ha s.ba s.to s.dw s.up=0
 e:evE k n=0
theorem ev0{n:Int}(h:evE 0 n=0):1≤n∧n≤1000000000000:=by
 unfold evE at h
 rw[if_pos (by decide),if_pos rfl]at h
 exact within_iff.1 (ZaN h (by decide))
theorem ev1{n:Int}(h:evE 1 n=0):0≤n∧n≤11:=by
 unfold evE at h
 rw[if_pos (by decide),if_neg (by decide),if_pos rfl]at h
 exact within_iff.1 (ZaN h (by decide))
theorem ZBb{k n:Int}(hk:2≤k∧k≤6)(h:evE k n=0):0≤n∧n≤5:=by
 unfold evE at h
 rw[if_pos (within_iff.2 (by omega)),if_neg (by omega),if_neg (by omega),if_pos (within_iff.2 hk)]at h
 exact within_iff.1 (ZaN h (by decide))
theorem ZFY(x:Int):Wk (.tup [.agg (.gen [.int .i64 0, .int .i64 0, .nils, .bool false, .int .i64 0, .bool false, .nils, .nils]), .int .i64 x]) (.tup [.agg (.gen [.int .i64 (st0).t, .int .i64 (st0).mo, .list (.big (.agg [.int .i64, .int .i64]) (st0).dn), .bool (st0).ha, .int .i64 (st0).ba, .bool (st0).to, .list (.ints .i64 (st0).dw), .list (.big (.agg [.int .i64, .bool]) (st0).up)]), .int .i64 x]):=Wk.tup' ⟨Wk.agg' ⟨.same _, .same _, .nil _ rfl, .same _, .same _, .same _, .nil _ rfl, .nil _ rfl,trivial⟩, .same _,trivial⟩
def ZkO(s:ST)(e:Int):AV:=.tup [.agg (.gen [.int .i64 (s).t, .int .i64 (s).mo, .list (.big (.agg [.int .i64, .int .i64]) (s).dn), .bool (s).ha, .int .i64 (s).ba, .bool (s).to, .list (.ints .i64 (s).dw), .list (.big (.agg [.int .i64, .bool]) (s).up)]), .int .i64 e]
theorem ZbC{ks rs l:List AV}{wn fl:Int}{s:ST}{k n e:Int}(h:ZbW l wn fl s k n=e)(he:e≠0):Wk (.tup [.agg (.gen [.int .i64 0, .int .i64 0, .nils, .bool false, .int .i64 0, .bool false, .nils, .nils]), .int .i64 e]) (ZkO (Zlf ks rs l wn fl s k n) (ZbW l wn fl s k n)):=by
 unfold Zlf
 rw[h,if_neg he]
 exact ZFY e
theorem Zbb{ks rs l:List AV}{wn fl:Int}{s s':ST}{k n:Int}(h:ZbW l wn fl s k n=0)(hs:appS ks rs l fl s k n=s'):Wk (ZkO s' 0) (ZkO (Zlf ks rs l wn fl s k n) (ZbW l wn fl s k n)):=by
 unfold Zlf
 rw[h,if_pos rfl,hs]
 exact .same _
theorem ZAy{α:Type}(xs:List α)(n:Int)(h0:0≤n)(h:n<xs.length):(n+1).toNat=n.toNat+1∧n.toNat<xs.length:=by omega
theorem ZxK(a:Int)(b:Bool):Row.len std (.gen [.int .i64 a, .bool b])=2:=rfl
theorem ZrM(a b:Int):Row.len std (.gen [.int .i64 a, .int .i64 b])=2:=rfl
theorem Zi1{ms ks rs l:List AV}{wn fl at0 mo:Int}{dn:List AV}{ha:Bool}{ba:Int}{to:Bool}{dw:List Int}{up:List AV}{k en:Int}(h:OkA ms ks rs l wn fl ⟨at0,mo,dn,ha,ba,to,dw,up⟩ k en):
 (l.length≤12∧dn.length≤l.length)∧(dw.length:Int)≤fl∧(up.length:Int)≤fl∧(1≤wn∧wn≤6)∧fl≤6∧(0≤at0∧at0≤1000000000000)∧(0≤ba∧ba≤dn.length)∧ks.length≤8:=by
 obtain⟨hf,hw,hfl⟩:=Zbl h.u
 have hs:=vs_iff.1 h.s
 exact⟨⟨hf.l1.2,hs.len.1⟩,hs.len.2.1,hs.len.2.2,hw,hfl.2,hs.t,hs.base,hf.ks1.2⟩
section
variable (ms ks rs l:List AV)(wn fl:Int)(at0 mo:Int)(dn:List AV)(ha:Bool)(ba:Int)(to:Bool)(dw:List Int)(up:List AV)(en:Int)
end
end Go.Proofs.YtkeoeooghhjibaaGreatDoor
/- Contracts as a list. No condition. -/
namespace Go.Proofs.YtkeoeooghhjibaaGreatDoor
theorem Zm6(l dn:List AV):∀(m i:Nat) (xs:List Int),(Zm9 l dn m i xs).length=xs.length
 |0,_,_=>rfl
 |m+1,i,xs=>by rw[Zm9,Zm6 l dn m,List.length_set]
theorem ZtM(ks l dn:List AV)(i:Nat):(m0L ks l dn i).length=ks.length:=by unfold m0L;rw[Zm6,List.length_replicate]
theorem ZsR{ms ks rs l:List AV}(hf:OkF ms ks rs l){fl:Int}{s:ST}(hs:VS ks rs l fl s):∀i,i≤s.dn.length→OkT ks (m0T s.dn i) (m0L ks l s.dn i)
 |0,_=>ZGt ks l s.dn
 |i+1,h=>by
  obtain⟨_,b,c,d⟩:=hs.done i (by omega)
  have hw:Zab (Zaj s.dn i 1) (Zaj l i 1) (Zaj l i 2)=true:=by
   unfold ZdB at d
   simp only[Bool.and_eq_true]at d
   exact d.1
  exact(okD hf s.dn (ZsR hf hs i (by omega)) hs.t.2 b c hw (by have:=hs.len.1;omega)).2
theorem ZCl{ks rs l:List AV}{fl:Int}{s:ST}(hs:VS ks rs l fl s):m0T s.dn s.dn.length≤s.t:=by
 cases h:s.dn.length with
 |zero=>exact hs.t.1
 |succ i=>exact(hs.done i (by omega)).2.1
section
variable {C:Ctx}(hC:C.P=Tryz.prog)(ms ks rs l:List AV)(wn fl:Int)(hf:OkF ms ks rs l){Q:List AFrame→Zac→Prop}{V:AV}(at0 mo:Int)(dn:List AV)(ha:Bool)(ba:Int)(to:Bool)(up:List AV)
include hC hf
end
theorem ZmV{ks rs l:List AV}{fl:Int}{s:ST}{a:Int}(h:¬(s.ha=false∧a=s.dn.length)):Zed fl (Zh7 ks rs l s a)=Zed fl s:=by unfold Zh7;rw[if_neg h]
theorem ZiV{ks rs l:List AV}{fl:Int}{s:ST}{a:Int}(h:s.ha=false∧a=s.dn.length)(hn:ZkC ks rs l s=true):Zed fl (Zh7 ks rs l s a)=Zed fl { s with dn:=s.dn++[dnV a s.t],mo:=m0A ks l (s.dn.length+1) } :=by unfold Zh7;rw[if_pos h,if_pos hn]
theorem Zon{ks rs l:List AV}{fl:Int}{s:ST}{a:Int}(h:s.ha=false∧a=s.dn.length)(hn:¬ZkC ks rs l s=true):Zed fl (Zh7 ks rs l s a)=Zed fl { s with ha:=true } :=by unfold Zh7;rw[if_pos h,if_neg hn]
theorem Zhh{fl:Int}{s:ST}(h:(s.up.length:Int)<fl):Zed fl s= { s with up:=s.up++[upV s.dn.length s.ha] } :=by unfold Zed ZxJ;rw[if_pos h]
theorem ZkA{fl:Int}{s:ST}(h:¬(s.up.length:Int)<fl):Zed fl s=s:=by unfold Zed ZxJ;rw[if_neg h]
def okA(ms ks rs l:List AV)(wn fl:Int)(s:ST)(k n:Int):Bool:=decide (upE ms ks rs l wn fl=0∧stE ks rs l fl s.t s.mo s.dn s.ha s.ba s.to s.dw s.up=0∧evE k n=0)
def Bp:List Ctr:=Bn
theorem ZDM:ZaD Tryz.prog Bp:=Zdg
end Go.Proofs.YtkeoeooghhjibaaGreatDoor
/- Contracts as a list. No condition. -/
namespace Go.Proofs.YtkeoeooghhjibaaGreatDoor
def Bq:List Ctr:=Bp
theorem ZEB:ZaD Tryz.prog Bq:=ZDM
end Go.Proofs.YtkeoeooghhjibaaGreatDoor
/- Contracts as a list. No condition. -/
namespace Go.Proofs.YtkeoeooghhjibaaGreatDoor
section
variable {C:Ctx}(hC:C.P=Tryz.prog)(ms ks rs l:List AV)(wn fl:Int)(at0 mo:Int)(dn:List AV)(ha:Bool)(ba:Int)(to:Bool)(dw:List Int)(up:List AV)(h1:upE ms ks rs l wn fl=0)(h2:stE ks rs l fl at0 mo dn ha ba to dw up=0)
include hC h1 h2
end
def Br:List Ctr:=Bq
theorem ZDy:ZaD Tryz.prog Br:=ZEB
end Go.Proofs.YtkeoeooghhjibaaGreatDoor
/- slices.Delete of one element, as the explorer prints it: in short. No condition. -/
namespace Go.Proofs.YtkeoeooghhjibaaGreatDoor
def dT(A:Ar)(dw:List Int)(en:Int):List Int:=(A.sub3 dw (A.nat (A.add en 1)) (A.len dw-A.nat (A.add en 1)))
def dW(A:Ar)(dw:List Int)(en:Int):List Int:=(A.app (A.app (A.sub3 dw 0 (A.nat en-0)) (dT A dw en)) (A.sub3 dw (A.nat en-0+A.len (dT A dw en)) (A.len dw)))
def dV(A:Ar)(dw:List Int)(en:Int):List Int:=(A.sub3 (dW A dw en) 0 (A.nat en-0+A.len (dT A dw en)))
def dR(A:Ar)(dw:List Int)(en:Int):List Int:=(A.rep (A.nat (A.int (A.len dw))-A.nat (A.int (A.len (dV A dw en)))) 0)
def dY(A:Ar)(dw:List Int)(en:Int):List Int:=(A.app (A.app (A.sub3 (dW A dw en) 0 (0+A.nat (A.int (A.len (dV A dw en))))) (dR A dw en)) (A.sub3 (dW A dw en) (0+A.nat (A.int (A.len (dV A dw en)))+A.len (dR A dw en)) (A.len (dW A dw en))))
def dX(A:Ar)(dw:List Int)(en:Int):List Int:=(A.sub3 (dY A dw en) 0 (A.nat en-0+A.len (dT A dw en)))
def dM(A:Ar)(dw:List Int)(en:Int):Nat:=max (A.nat en-0+A.len (dT A dw en)) (Row.len A (.ints .i64 (dW A dw en)))
def dJ(A:Ar)(dw:List Int)(en:Int):List Bool:=[Zah (Zah (A.le 0 en) (A.le 0 (A.add en 1))) (Zah (Zah (Nat.ble (A.nat en) (A.nat (A.add en 1))) (Nat.ble (A.nat (A.add en 1)) (A.len dw))) (Zah (A.le 0 (A.int (A.len dw))) (Zah (Nat.ble (A.nat (A.add en 1)) (A.nat (A.int (A.len dw)))) (Nat.ble (A.nat (A.int (A.len dw))) (A.len dw))))),A.inR .i64 (A.add en 1),Zah (Nat.blt (A.nat en) (A.len dw)) true,Zah (A.le 0 en) (Nat.blt (A.nat en) (A.len dw))]
def dK(A:Ar)(dw:List Int)(en:Int):List Bool:=[Zah (Nat.ble (A.nat en-0+A.len (dT A dw en)) (A.len (dY A dw en))) true,Nat.ble (0+A.nat (A.int (A.len (dV A dw en)))+(A.nat (A.int (A.len dw))-A.nat (A.int (A.len (dV A dw en))))) (A.len (dW A dw en)),Zah (Zah (A.le 0 (A.int (A.len (dV A dw en)))) (A.le 0 (A.int (A.len dw)))) (Zah (Zah (Nat.ble (A.nat (A.int (A.len (dV A dw en)))) (A.nat (A.int (A.len dw)))) (Nat.ble (A.nat (A.int (A.len dw))) (dM A dw en))) true),Nat.ble (0+(A.nat en-0+A.len (dT A dw en))) (A.len (dW A dw en)),Zah (Zah (Nat.ble (A.nat (A.add en 1)+(A.len dw-A.nat (A.add en 1))) (A.len dw)) true) (Zah (Nat.ble (A.nat en-0+A.len (dT A dw en)) (A.len dw)) (Nat.blt 0 (A.len dw))),Zah (Zah (A.le 0 (A.add en 1)) true) (Zah (Zah (Nat.ble (A.nat (A.add en 1)) (A.len dw)) (Nat.ble (A.len dw) (A.len dw))) true),Zah (A.le 0 en) (Zah (Zah (Nat.ble 0 (A.nat en)) (Nat.ble (A.nat en) (A.len dw))) true)]
def eT(A:Ar)(up:List AV)(en:Int):List AV:=(A.subA up (A.nat (A.add en 1)) (A.lenA up-A.nat (A.add en 1)))
def eW(A:Ar)(up:List AV)(en:Int):List AV:=(A.appA (A.appA (A.subA up 0 (A.nat en-0)) (eT A up en)) (A.subA up (A.nat en-0+A.lenA (eT A up en)) (A.lenA up)))
def eV(A:Ar)(up:List AV)(en:Int):List AV:=(A.subA (eW A up en) 0 (A.nat en-0+A.lenA (eT A up en)))
def eR(A:Ar)(up:List AV)(en:Int):List AV:=(A.repA (A.nat (A.int (A.lenA up))-A.nat (A.int (A.lenA (eV A up en)))) (AV.agg (Row.gen [AV.int .i64 0,AV.bool false])))
def eY(A:Ar)(up:List AV)(en:Int):List AV:=(A.appA (A.appA (A.subA (eW A up en) 0 (0+A.nat (A.int (A.lenA (eV A up en))))) (eR A up en)) (A.subA (eW A up en) (0+A.nat (A.int (A.lenA (eV A up en)))+A.lenA (eR A up en)) (A.lenA (eW A up en))))
def eX(A:Ar)(up:List AV)(en:Int):List AV:=(A.subA (eY A up en) 0 (A.nat en-0+A.lenA (eT A up en)))
def eM(A:Ar)(up:List AV)(en:Int):Nat:=max (A.nat en-0+A.lenA (eT A up en)) (Row.len A (Row.big (Sh.agg [Sh.int .i64,Sh.bool]) (eW A up en)))
def eJ(A:Ar)(up:List AV)(en:Int):List Bool:=[Zah (Zah (A.le 0 en) (A.le 0 (A.add en 1))) (Zah (Zah (Nat.ble (A.nat en) (A.nat (A.add en 1))) (Nat.ble (A.nat (A.add en 1)) (A.lenA up))) (Zah (A.le 0 (A.int (A.lenA up))) (Zah (Nat.ble (A.nat (A.add en 1)) (A.nat (A.int (A.lenA up)))) (Nat.ble (A.nat (A.int (A.lenA up))) (A.lenA up))))),A.inR .i64 (A.add en 1),Zah (Nat.blt (A.nat en) (A.lenA up)) true,Zah (A.le 0 en) (Nat.blt (A.nat en) (A.lenA up))]
def eK(A:Ar)(up:List AV)(en:Int):List Bool:=[Zah (Nat.ble (A.nat en-0+A.lenA (eT A up en)) (A.lenA (eY A up en))) true,Nat.ble (0+A.nat (A.int (A.lenA (eV A up en)))+(A.nat (A.int (A.lenA up))-A.nat (A.int (A.lenA (eV A up en))))) (A.lenA (eW A up en)),Zah (Zah (A.le 0 (A.int (A.lenA (eV A up en)))) (A.le 0 (A.int (A.lenA up)))) (Zah (Zah (Nat.ble (A.nat (A.int (A.lenA (eV A up en)))) (A.nat (A.int (A.lenA up)))) (Nat.ble (A.nat (A.int (A.lenA up))) (eM A up en))) true),Nat.ble (0+(A.nat en-0+A.lenA (eT A up en))) (A.lenA (eW A up en)),Zah (Zah (Nat.ble (A.nat (A.add en 1)+(A.lenA up-A.nat (A.add en 1))) (A.lenA up)) true) (Zah (Nat.ble (A.nat en-0+A.lenA (eT A up en)) (A.lenA up)) (Nat.blt 0 (A.lenA up))),Zah (Zah (A.le 0 (A.add en 1)) true) (Zah (Zah (Nat.ble (A.nat (A.add en 1)) (A.lenA up)) (Nat.ble (A.lenA up) (A.lenA up))) true),Zah (A.le 0 en) (Zah (Zah (Nat.ble 0 (A.nat en)) (Nat.ble (A.nat en) (A.lenA up))) true)]
theorem ZpL{dw:List Int}{i:Nat} :dT std dw i=dw.drop (i+1):=by
 have e:((i:Int)+1).toNat=i+1:=by omega
 simp only[dT,ZjQ,ZpP,Zf9,ZAI,e]
 exact List.take_of_length_le (by simp)
section
variable {dw:List Int}{i:Nat}(h:i<dw.length)
include h
theorem ZvC:dW std dw i=ZbZ dw i++dw.drop (dw.length-1):=by
 have e2:i-0+(dw.length-(i+1))=dw.length-1:=by omega
 simp only[dW,ZpL,ZzL,ZjQ,ZpP,Zf9,Int.toNat_natCast,List.length_drop,List.drop_zero,e2,ZbZ]
 rw[List.take_of_length_le (l:=dw.drop (dw.length-1)) (by simp)];rfl
theorem ZeX:(ZbZ dw (i:Int)).length=dw.length-1:=by simp[ZbZ];omega
theorem Zm1:(dW std dw i).length=dw.length:=by rw[ZvC h,List.length_append,ZeX h,List.length_drop];omega
theorem Zsa:dV std dw i=ZbZ dw i:=by
 have e2:i-0+(dw.length-(i+1))=dw.length-1:=by omega
 simp only[dV,ZpL,ZvC h,ZjQ,ZpP,Zf9,Int.toNat_natCast,List.length_drop,List.drop_zero,e2]
 rw[←ZeX h];exact List.take_left
theorem Zs2:(dR std dw i).length=1:=by
 simp[dR,Zsa h,ZeX h];omega
theorem Zyv:∃zs,dY std dw i=ZbZ dw i++zs∧zs.length=1:=by
 have e:List.take (dw.length-1) (ZbZ dw (i:Int)++dw.drop (dw.length-1))=ZbZ dw i:=by rw[←ZeX h];exact List.take_left
 refine⟨dR std dw i++((dW std dw i).drop (0+std.nat (std.int (std.len (dV std dw i)))+std.len (dR std dw i))).take (std.len (dW std dw i)),?_,?_⟩
 ·simp only[dY,ZzL,ZjQ]
  rw[←List.append_assoc]
  congr 2
  simp[Zsa h,ZeX h,ZvC h,e]
 ·have:=Zm1 h
  have:=Zs2 h
  simp[Zsa h,ZeX h,Zm1 h,Zs2 h]
  omega
theorem ZAH:(dY std dw i).length=dw.length:=by
 obtain⟨zs,e,hz⟩:=Zyv h
 rw[e,List.length_append,ZeX h];omega
theorem ZBz:dX std dw i=ZbZ dw i:=by
 obtain⟨zs,e,hz⟩:=Zyv h
 have e2:i-0+(dw.length-(i+1))=dw.length-1:=by omega
 simp only[dX,ZpL,ZjQ,ZpP,Zf9,Int.toNat_natCast,List.length_drop,List.drop_zero,e2,e]
 rw[←ZeX h];exact List.take_left
theorem ZEK:dM std dw i=dw.length:=by
 have:Row.len std (.ints .i64 (dW std dw i))=dw.length:=Zm1 h
 simp only[dM,this,ZpL,ZpP,Zf9,Int.toNat_natCast,List.length_drop]
 omega
theorem ZAs(hl:dw.length≤1000000)(t:Prop):rB (dJ std dw i) t=t:=by
 have e:((i:Int)+1).toNat=i+1:=by omega
 simp[dJ,e]
 intro _;omega
theorem ZBd(hl:dw.length≤1000000)(t:Prop):rB (dK std dw i) t=t:=by
 have e:((i:Int)+1).toNat=i+1:=by omega
 simp[dK,e,ZEK h,ZpL,Zm1 h,Zsa h,ZeX h,ZAH h]
 intro _;omega
end
theorem Zhb{dw:List Int}{en:Int}(h0:0≤en)(h:en<dw.length):dX std dw en=ZbZ dw en:=by
 obtain⟨i,rfl⟩:∃i:Nat,en=i:=⟨en.toNat,by omega⟩
 exact ZBz (by omega)
theorem ZDW{dw:List Int}{en:Int}(h0:0≤en)(h:en<dw.length)(hl:dw.length≤1000000)(t:Prop):rB (dJ std dw en) t=t:=by
 obtain⟨i,rfl⟩:∃i:Nat,en=i:=⟨en.toNat,by omega⟩
 exact ZAs (by omega) hl t
theorem ZD4{dw:List Int}{en:Int}(h0:0≤en)(h:en<dw.length)(hl:dw.length≤1000000)(t:Prop):rB (dK std dw en) t=t:=by
 obtain⟨i,rfl⟩:∃i:Nat,en=i:=⟨en.toNat,by omega⟩
 exact ZBd (by omega) hl t
theorem Zdw{dw:List Int}{en:Int}(h0:0≤en)(h:en<dw.length)(hl:dw.length≤1000000):AllT (dJ std dw en):=by
 have:=ZDW h0 h hl True
 rw[ZnM]at this
 exact(of_eq_true this).1
theorem Zdv{dw:List Int}{en:Int}(h0:0≤en)(h:en<dw.length)(hl:dw.length≤1000000):AllT (dK std dw en):=by
 have:=ZD4 h0 h hl True
 rw[ZnM]at this
 exact(of_eq_true this).1
theorem ZoE{up:List AV}{i:Nat} :eT std up i=up.drop (i+1):=by
 have e:((i:Int)+1).toNat=i+1:=by omega
 simp only[eT,Zkb,Zco,Zf9,ZAI,e]
 exact List.take_of_length_le (by simp)
section
variable {up:List AV}{i:Nat}(h:i<up.length)
include h
theorem Zvo:eW std up i=ZbZ up i++up.drop (up.length-1):=by
 have e2:i-0+(up.length-(i+1))=up.length-1:=by omega
 simp only[eW,ZoE,Zti,Zkb,Zco,Zf9,Int.toNat_natCast,List.length_drop,List.drop_zero,e2,ZbZ]
 rw[List.take_of_length_le (l:=up.drop (up.length-1)) (by simp)];rfl
theorem ZeP:(ZbZ up (i:Int)).length=up.length-1:=by simp[ZbZ];omega
theorem Zm3:(eW std up i).length=up.length:=by rw[Zvo h,List.length_append,ZeP h,List.length_drop];omega
theorem Zrc:eV std up i=ZbZ up i:=by
 have e2:i-0+(up.length-(i+1))=up.length-1:=by omega
 simp only[eV,ZoE,Zvo h,Zkb,Zco,Zf9,Int.toNat_natCast,List.length_drop,List.drop_zero,e2]
 rw[←ZeP h];exact List.take_left
theorem Ztd:(eR std up i).length=1:=by
 simp[eR,Zrc h,ZeP h];omega
theorem ZBW:∃zs,eY std up i=ZbZ up i++zs∧zs.length=1:=by
 have e:List.take (up.length-1) (ZbZ up (i:Int)++up.drop (up.length-1))=ZbZ up i:=by rw[←ZeP h];exact List.take_left
 refine⟨eR std up i++((eW std up i).drop (0+std.nat (std.int (std.lenA (eV std up i)))+std.lenA (eR std up i))).take (std.lenA (eW std up i)),?_,?_⟩
 ·simp only[eY,Zti,Zkb]
  rw[←List.append_assoc]
  congr 2
  simp[Zrc h,ZeP h,Zvo h,e]
 ·have:=Zm3 h
  have:=Ztd h
  simp[Zrc h,ZeP h,Zm3 h,Ztd h]
  omega
theorem ZBm:(eY std up i).length=up.length:=by
 obtain⟨zs,e,hz⟩:=ZBW h
 rw[e,List.length_append,ZeP h];omega
theorem Zy6:eX std up i=ZbZ up i:=by
 obtain⟨zs,e,hz⟩:=ZBW h
 have e2:i-0+(up.length-(i+1))=up.length-1:=by omega
 simp only[eX,ZoE,Zkb,Zco,Zf9,Int.toNat_natCast,List.length_drop,List.drop_zero,e2,e]
 rw[←ZeP h];exact List.take_left
theorem ZD9:eM std up i=up.length:=by
 have:Row.len std (.big (.agg [.int .i64, .bool]) (eW std up i))=up.length:=Zm3 h
 simp only[eM,this,ZoE,Zco,Zf9,Int.toNat_natCast,List.length_drop]
 omega
theorem ZAc(hl:up.length≤1000000)(t:Prop):rB (eJ std up i) t=t:=by
 have e:((i:Int)+1).toNat=i+1:=by omega
 simp[eJ,e]
 intro _;omega
theorem ZxQ(hl:up.length≤1000000)(t:Prop):rB (eK std up i) t=t:=by
 have e:((i:Int)+1).toNat=i+1:=by omega
 simp[eK,e,ZD9 h,ZoE,Zm3 h,Zrc h,ZeP h,ZBm h]
 intro _;omega
end
theorem ZtS{up:List AV}{en:Int}(h0:0≤en)(h:en<up.length):eX std up en=ZbZ up en:=by
 obtain⟨i,rfl⟩:∃i:Nat,en=i:=⟨en.toNat,by omega⟩
 exact Zy6 (by omega)
theorem ZD5{up:List AV}{en:Int}(h0:0≤en)(h:en<up.length)(hl:up.length≤1000000)(t:Prop):rB (eJ std up en) t=t:=by
 obtain⟨i,rfl⟩:∃i:Nat,en=i:=⟨en.toNat,by omega⟩
 exact ZAc (by omega) hl t
theorem ZEa{up:List AV}{en:Int}(h0:0≤en)(h:en<up.length)(hl:up.length≤1000000)(t:Prop):rB (eK std up en) t=t:=by
 obtain⟨i,rfl⟩:∃i:Nat,en=i:=⟨en.toNat,by omega⟩
 exact ZxQ (by omega) hl t
theorem ZoA{up:List AV}{en:Int}(h0:0≤en)(h:en<up.length)(hl:up.length≤1000000):AllT (eJ std up en):=by
 have:=ZD5 h0 h hl True
 rw[ZnM]at this
 exact(of_eq_true this).1
theorem Zom{up:List AV}{en:Int}(h0:0≤en)(h:en<up.length)(hl:up.length≤1000000):AllT (eK std up en):=by
 have:=ZEa h0 h hl True
 rw[ZnM]at this
 exact(of_eq_true this).1
end Go.Proofs.YtkeoeooghhjibaaGreatDoor
