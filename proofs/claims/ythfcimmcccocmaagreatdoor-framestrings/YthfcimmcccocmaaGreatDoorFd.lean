/- Contracts as a list. No condition. -/
import Derived.Test.YthfcimmcccocmaaGreatDoorFr
import Derived.KernelRfl
namespace Go.Proofs.YthfcimmcccocmaaGreatDoor
def pfE(s:List UInt8):Int:=if rdB s 3=true then(if (rdL s).length≤27 then ZaQ ((rdL s).drop 3)else 8)else 7
def pfA(s:List UInt8)(i:Nat):Int:=if pfE s=0 then(rdL s).getD i 0 else 0
def pfD(s:List UInt8):List Int:=if pfE s=0 then(rdL s).drop 3 else []
def ppE(s:List UInt8):Int:=if rdB s 2=true then pkE ((rdL s).getD 0 0) ((rdL s).getD 1 0) ((rdL s).drop 2)else 7
def ppA(s:List UInt8)(i:Nat):Int:=if ppE s=0 then(rdL s).getD i 0 else 0
def ppD(s:List UInt8):List Int:=if ppE s=0 then(rdL s).drop 2 else []
def Zl0(s:List UInt8):AV:=.tup [.agg (.gen [.int .i64 (pfA s 0), .int .i64 (pfA s 1), .int .i64 (pfA s 2), .list (.ints .i64 (pfD s))]), .int .i64 (pfE s)]
def ZuI(s:List UInt8):AV:=.tup [.agg (.gen [.int .i64 (ppA s 0), .int .i64 (ppA s 1), .list (.ints .i64 (ppD s))]), .int .i64 (ppE s)]
theorem ZuB{s:List UInt8}{e:Int}(h:pfE s=e)(he:e≠0):Wk (.tup [.agg (.gen [.int .i64 0, .int .i64 0, .int .i64 0, .nils]), .int .i64 e]) (Zl0 s):=by
 unfold Zl0 pfA pfD
 rw[h,if_neg he,if_neg he,if_neg he,if_neg he]
 exact Wk.tup' ⟨Wk.agg' ⟨.same _, .same _, .same _, .nil _ rfl,trivial⟩, .same _,trivial⟩
theorem Zyk{s:List UInt8}{e:Int}(h:ppE s=e)(he:e≠0):Wk (.tup [.agg (.gen [.int .i64 0, .int .i64 0, .nils]), .int .i64 e]) (ZuI s):=by
 unfold ZuI ppA ppD
 rw[h,if_neg he,if_neg he,if_neg he]
 exact Wk.tup' ⟨Wk.agg' ⟨.same _, .same _, .nil _ rfl,trivial⟩, .same _,trivial⟩
theorem okF{s:List UInt8}(h:pfE s=0):Zl0 s=.tup [.agg (.gen [.int .i64 ((rdL s).getD 0 0), .int .i64 ((rdL s).getD 1 0), .int .i64 ((rdL s).getD 2 0), .list (.ints .i64 ((rdL s).drop 3))]), .int .i64 0]:=by
 unfold Zl0 pfA pfD
 rw[h];rfl
theorem okK{s:List UInt8}(h:ppE s=0):ZuI s=.tup [.agg (.gen [.int .i64 ((rdL s).getD 0 0), .int .i64 ((rdL s).getD 1 0), .list (.ints .i64 ((rdL s).drop 2))]), .int .i64 0]:=by
 unfold ZuI ppA ppD
 rw[h];rfl
theorem Zib{s:List UInt8}{few:Int}(h:rdB s few=true):few≤((rdL s).length:Int):=by
 unfold rdB at h
 simp only[Bool.and_eq_true,decide_eq_true_eq]at h
 unfold rdL
 rw[h.1]
 exact h.2
theorem ZeQ(s:List UInt8):(rdL s).length≤s.length+1:=by
 unfold rdL
 cases (Zbg 32 s).all okW with
 |true=>simpa using ZhY 32 s
 |false=>simp
theorem Zfi{l:List Int}{k:Nat} :(l.drop k).take (l.length-k)=l.drop k:=List.take_of_length_le (by simp)
theorem Zks{l:List Int}{i:Nat}(h:i<3):((((l.drop 0).take 3).drop 0).take 3).getD i 0=l.getD i 0:=by
 rw[List.drop_zero,List.drop_zero,List.take_take,List.getD_eq_getElem?_getD,List.getD_eq_getElem?_getD,List.getElem?_take,if_pos (by omega)]
theorem Znd(s:List UInt8)(h:s.length<1000000):Zae Tryz.prog 9 [.str s] (Zl0 s) none:=
 ZkK (Zu6 s) fun C hC=>Zyh hC Zov ZCe (by
  have hl:=ZeQ s
  by_cases h1:rdB s 3=true
  ·have h2:=Zib h1
   have h3:3≤(rdL s).length:=by omega
   have t3:=Zfi (l:=rdL s) (k:=3)
   have a0:=Zks (l:=rdL s) (i:=0) (by decide)
   have a1:=Zks (l:=rdL s) (i:=1) (by decide)
   have a2:=Zks (l:=rdL s) (i:=2) (by decide)
   by_cases h4:(rdL s).length≤27
   ·have hE:pfE s=ZaQ ((rdL s).drop 3):=by unfold pfE;rw[if_pos h1,if_pos h4]
    have h4':(((rdL s).length-3:Nat):Int)≤24:=by omega
    by_cases h5:ZaQ ((rdL s).drop 3)=0
    ·rw[okF (hE.trans h5)]
     simp only[Zx9,Zdi,ZgN,ZgL]
     simp[-List.getD_eq_getElem?_getD, -List.drop_zero,h,h1,h3,t3,h4',h5,ZbJ,ZaL,AV.bx,Zag,a0,a1,a2]
     refine⟨by omega,?_⟩
     exact .same _
    ·simp only[Zx9,Zdi,ZgN,ZgL]
     simp[-List.getD_eq_getElem?_getD,h,h1,h3,t3,h4',h5,ZbJ,ZaL,AV.bx,Zag]
     refine⟨by omega,?_⟩
     exact ZuB hE h5
   ·have hE:pfE s=8:=by unfold pfE;rw[if_pos h1,if_neg h4]
    have h4':¬(((rdL s).length-3:Nat):Int)≤24:=by omega
    simp only[Zx9,Zdi,ZgN,ZgL]
    simp[-List.getD_eq_getElem?_getD,h,h1,h3,t3,h4',ZbJ,ZaL,AV.bx,Zag]
    refine⟨by omega,?_⟩
    exact ZuB hE (by decide)
  ·have hE:pfE s=7:=by unfold pfE;rw[if_neg h1]
   simp[Zx9,h,h1]
   exact ZuB hE (by decide))
theorem ZmL(s:List UInt8)(h:s.length<1000000):Zae Tryz.prog 11 [.str s] (Zl0 s) none:=
 ZkK (Zsa s) fun C hC=>Zyh hC Zov ZAV (by
  have hl:=ZeQ s
  by_cases h1:rdB s 3=true
  ·have h2:=Zib h1
   have h3:3≤(rdL s).length:=by omega
   have t3:=Zfi (l:=rdL s) (k:=3)
   by_cases h4:(rdL s).length≤27
   ·have hE:pfE s=ZaQ ((rdL s).drop 3):=by unfold pfE;rw[if_pos h1,if_pos h4]
    have h4':¬(24:Int)<((rdL s).length:Int)-3:=by omega
    have n0:0<(rdL s).length:=by omega
    have n1:1<(rdL s).length:=by omega
    have n2:2<(rdL s).length:=by omega
    by_cases h5:ZaQ ((rdL s).drop 3)=0
    ·rw[okF (hE.trans h5)]
     simp only[ZnL,Zdi,ZgN,ZgL]
     simp[-List.getD_eq_getElem?_getD,h,h1,h3,t3,h4',h5,n0,n1,n2]
     refine⟨by omega,by omega,?_⟩
     exact .same _
    ·simp only[ZnL,Zdi,ZgN,ZgL]
     simp[-List.getD_eq_getElem?_getD,h,h1,h3,t3,h4',h5]
     refine⟨by omega,by omega,?_⟩
     exact ZuB hE h5
   ·have hE:pfE s=8:=by unfold pfE;rw[if_pos h1,if_neg h4]
    have h4':(24:Int)<((rdL s).length:Int)-3:=by omega
    simp only[ZnL,Zdi,ZgN,ZgL]
    simp[-List.getD_eq_getElem?_getD,h,h1,h3,t3,h4']
    refine⟨by omega,?_⟩
    exact ZuB hE (by decide)
  ·have hE:pfE s=7:=by unfold pfE;rw[if_neg h1]
   simp[ZnL,h,h1]
   exact ZuB hE (by decide))
theorem ZjQ(s:List UInt8)(h:s.length<1000000):Zae Tryz.prog 10 [.str s] (ZuI s) none:=
 ZkK (Zsi s) fun C hC=>Zyh hC Zov ZAr (by
  have hl:=ZeQ s
  by_cases h1:rdB s 2=true
  ·have h2:=Zib h1
   have h3:2≤(rdL s).length:=by omega
   have t3:=Zfi (l:=rdL s) (k:=2)
   have n0:0<(rdL s).length:=by omega
   have n1:1<(rdL s).length:=by omega
   have hE:ppE s=pkE ((rdL s).getD 0 0) ((rdL s).getD 1 0) ((rdL s).drop 2):=by unfold ppE;rw[if_pos h1]
   by_cases h5:pkE ((rdL s).getD 0 0) ((rdL s).getD 1 0) ((rdL s).drop 2)=0
   ·rw[okK (hE.trans h5)]
    simp only[ZpJ,Zdi,ZgN,ZgL]
    simp[-List.getD_eq_getElem?_getD,h,h1,h3,t3,h5,n0,n1]
    refine⟨by omega,?_⟩
    exact .same _
   ·simp only[ZpJ,Zdi,ZgN,ZgL]
    simp[-List.getD_eq_getElem?_getD,h,h1,h3,t3,h5,n0,n1]
    refine⟨by omega,?_⟩
    exact Zyk hE h5
  ·have hE:ppE s=7:=by unfold ppE;rw[if_neg h1]
   simp[ZpJ,h,h1]
   exact Zyk hE (by decide))
theorem Zkp(s:List UInt8)(h:s.length<1000000):Zae Tryz.prog 12 [.str s] (ZuI s) none:=
 ZkK (ZsZ s) fun C hC=>Zyh hC Zov ZzM (by
  have hl:=ZeQ s
  by_cases h1:rdB s 2=true
  ·have h2:=Zib h1
   have h3:2≤(rdL s).length:=by omega
   have t3:=Zfi (l:=rdL s) (k:=2)
   have n0:0<(rdL s).length:=by omega
   have n1:1<(rdL s).length:=by omega
   have hE:ppE s=pkE ((rdL s).getD 0 0) ((rdL s).getD 1 0) ((rdL s).drop 2):=by unfold ppE;rw[if_pos h1]
   by_cases h5:pkE ((rdL s).getD 0 0) ((rdL s).getD 1 0) ((rdL s).drop 2)=0
   ·rw[okK (hE.trans h5)]
    simp only[Zpz,Zdi,ZgN,ZgL]
    simp[-List.getD_eq_getElem?_getD,h,h1,h3,t3,h5,n0,n1]
    refine⟨by omega,?_⟩
    exact .same _
   ·simp only[Zpz,Zdi,ZgN,ZgL]
    simp[-List.getD_eq_getElem?_getD,h,h1,h3,t3,h5,n0,n1]
    refine⟨by omega,?_⟩
    exact Zyk hE h5
  ·have hE:ppE s=7:=by unfold ppE;rw[if_neg h1]
   simp[Zpz,h,h1]
   exact Zyk hE (by decide))
attribute [irreducible] pfE pfA pfD ppE ppA ppD
def k9:Ctr:=⟨9,0,fun _ a=>match a with |[.str s]=>some (decide (s.length<1000000), .tup [.agg (.gen [.int .i64 (pfA s 0), .int .i64 (pfA s 1), .int .i64 (pfA s 2), .list (.ints .i64 (pfD s))]), .int .i64 (pfE s)],none) |_=>none⟩
theorem ZAo:k9.OK Tryz.prog:=fun pa args r fr h=>by
 simp only[k9]at h
 split at h
 ·simp only[Option.some.injEq,Prod.mk.injEq,decide_eq_true_eq]at h
  obtain⟨h0,rfl,rfl⟩:=h
  exact Znd _ h0
 ·cases h
def k11:Ctr:=⟨11,0,fun _ a=>match a with |[.str s]=>some (decide (s.length<1000000), .tup [.agg (.gen [.int .i64 (pfA s 0), .int .i64 (pfA s 1), .int .i64 (pfA s 2), .list (.ints .i64 (pfD s))]), .int .i64 (pfE s)],none) |_=>none⟩
theorem Zva:k11.OK Tryz.prog:=fun pa args r fr h=>by
 simp only[k11]at h
 split at h
 ·simp only[Option.some.injEq,Prod.mk.injEq,decide_eq_true_eq]at h
  obtain⟨h0,rfl,rfl⟩:=h
  exact ZmL _ h0
 ·cases h
def k10:Ctr:=⟨10,0,fun _ a=>match a with |[.str s]=>some (decide (s.length<1000000), .tup [.agg (.gen [.int .i64 (ppA s 0), .int .i64 (ppA s 1), .list (.ints .i64 (ppD s))]), .int .i64 (ppE s)],none) |_=>none⟩
theorem Zwn:k10.OK Tryz.prog:=fun pa args r fr h=>by
 simp only[k10]at h
 split at h
 ·simp only[Option.some.injEq,Prod.mk.injEq,decide_eq_true_eq]at h
  obtain⟨h0,rfl,rfl⟩:=h
  exact ZjQ _ h0
 ·cases h
def k12:Ctr:=⟨12,0,fun _ a=>match a with |[.str s]=>some (decide (s.length<1000000), .tup [.agg (.gen [.int .i64 (ppA s 0), .int .i64 (ppA s 1), .list (.ints .i64 (ppD s))]), .int .i64 (ppE s)],none) |_=>none⟩
theorem ZxO:k12.OK Tryz.prog:=fun pa args r fr h=>by
 simp only[k12]at h
 split at h
 ·simp only[Option.some.injEq,Prod.mk.injEq,decide_eq_true_eq]at h
  obtain⟨h0,rfl,rfl⟩:=h
  exact Zkp _ h0
 ·cases h
def N8:List Ctr:=[k9,k11,k10,k12]++N7
theorem ZzA:ZaK Tryz.prog N8:=⟨ZAo,⟨Zva,⟨Zwn,⟨ZxO,Zov⟩⟩⟩⟩
end Go.Proofs.YthfcimmcccocmaaGreatDoor
/- Calls at given values. Printed by facts.py. -/
namespace Go.Proofs.YthfcimmcccocmaaGreatDoor
set_option maxRecDepth 1000000
def aw0:Fact:=⟨34,[(.bool true),(.int .i64 10)],(.int .i64 0),none⟩
theorem ZhO:Zae Tryz.prog aw0.f aw0.args aw0.r aw0.fr:=Zaa (n:=100000) (l:=[]) follows Zab trivial (by kernel_rfl)
def aw1:Fact:=⟨34,[(.bool true),(.int .i64 8)],(.int .i64 0),none⟩
theorem Zhu:Zae Tryz.prog aw1.f aw1.args aw1.r aw1.fr:=Zaa (n:=100000) (l:=[]) follows Zab trivial (by kernel_rfl)
def aw2:Fact:=⟨56,[(.int .i64 1),(.int .i64 0),(.int .i64 255)],(.bool true),none⟩
theorem ZwJ:Zae Tryz.prog aw2.f aw2.args aw2.r aw2.fr:=Zaa (n:=100000) (l:=[]) follows Zab trivial (by kernel_rfl)
def aw3:Fact:=⟨68,[(.int .i64 1)],(.bool true),none⟩
theorem ZrE:Zae Tryz.prog aw3.f aw3.args aw3.r aw3.fr:=Zaa (n:=100000) (l:=[aw2]) follows Zab ⟨ZwJ,trivial⟩ (by kernel_rfl)
def aw4:Fact:=⟨34,[(.bool true),(.int .i64 2)],(.int .i64 0),none⟩
theorem ZbM:Zae Tryz.prog aw4.f aw4.args aw4.r aw4.fr:=Zaa (n:=100000) (l:=[]) follows Zab trivial (by kernel_rfl)
def aw5:Fact:=⟨67,[(.int .i64 1)],(.int .i64 0),none⟩
theorem Zlz:Zae Tryz.prog aw5.f aw5.args aw5.r aw5.fr:=Zaa (n:=100000) (l:=[aw3,aw4]) follows Zab ⟨ZrE,⟨ZbM,trivial⟩⟩ (by kernel_rfl)
def aw6:Fact:=⟨56,[(.int .i64 5),(.int .i64 0),(.int .i64 255)],(.bool true),none⟩
theorem Zv2:Zae Tryz.prog aw6.f aw6.args aw6.r aw6.fr:=Zaa (n:=100000) (l:=[]) follows Zab trivial (by kernel_rfl)
def aw7:Fact:=⟨68,[(.int .i64 5)],(.bool true),none⟩
theorem ZvD:Zae Tryz.prog aw7.f aw7.args aw7.r aw7.fr:=Zaa (n:=100000) (l:=[aw6]) follows Zab ⟨Zv2,trivial⟩ (by kernel_rfl)
def aw8:Fact:=⟨67,[(.int .i64 5)],(.int .i64 0),none⟩
theorem Zvg:Zae Tryz.prog aw8.f aw8.args aw8.r aw8.fr:=Zaa (n:=100000) (l:=[aw7,aw4]) follows Zab ⟨ZvD,⟨ZbM,trivial⟩⟩ (by kernel_rfl)
def aw9:Fact:=⟨56,[(.int .i64 0),(.int .i64 0),(.int .i64 255)],(.bool true),none⟩
theorem Zvy:Zae Tryz.prog aw9.f aw9.args aw9.r aw9.fr:=Zaa (n:=100000) (l:=[]) follows Zab trivial (by kernel_rfl)
def aw10:Fact:=⟨68,[(.int .i64 0)],(.bool true),none⟩
theorem ZoG:Zae Tryz.prog aw10.f aw10.args aw10.r aw10.fr:=Zaa (n:=100000) (l:=[aw9]) follows Zab ⟨Zvy,trivial⟩ (by kernel_rfl)
def aw11:Fact:=⟨67,[(.int .i64 0)],(.int .i64 0),none⟩
theorem ZjY:Zae Tryz.prog aw11.f aw11.args aw11.r aw11.fr:=Zaa (n:=100000) (l:=[aw10,aw4]) follows Zab ⟨ZoG,⟨ZbM,trivial⟩⟩ (by kernel_rfl)
def aw12:Fact:=⟨56,[(.int .i64 7),(.int .i64 0),(.int .i64 255)],(.bool true),none⟩
theorem Zsy:Zae Tryz.prog aw12.f aw12.args aw12.r aw12.fr:=Zaa (n:=100000) (l:=[]) follows Zab trivial (by kernel_rfl)
def aw13:Fact:=⟨68,[(.int .i64 7)],(.bool true),none⟩
theorem Zt3:Zae Tryz.prog aw13.f aw13.args aw13.r aw13.fr:=Zaa (n:=100000) (l:=[aw12]) follows Zab ⟨Zsy,trivial⟩ (by kernel_rfl)
def aw14:Fact:=⟨67,[(.int .i64 7)],(.int .i64 0),none⟩
theorem Zun:Zae Tryz.prog aw14.f aw14.args aw14.r aw14.fr:=Zaa (n:=100000) (l:=[aw13,aw4]) follows Zab ⟨Zt3,⟨ZbM,trivial⟩⟩ (by kernel_rfl)
def aw15:Fact:=⟨56,[(.int .i64 255),(.int .i64 0),(.int .i64 255)],(.bool true),none⟩
theorem Zr9:Zae Tryz.prog aw15.f aw15.args aw15.r aw15.fr:=Zaa (n:=100000) (l:=[]) follows Zab trivial (by kernel_rfl)
def aw16:Fact:=⟨68,[(.int .i64 255)],(.bool true),none⟩
theorem Zsc:Zae Tryz.prog aw16.f aw16.args aw16.r aw16.fr:=Zaa (n:=100000) (l:=[aw15]) follows Zab ⟨Zr9,trivial⟩ (by kernel_rfl)
def aw17:Fact:=⟨67,[(.int .i64 255)],(.int .i64 0),none⟩
theorem Zm5:Zae Tryz.prog aw17.f aw17.args aw17.r aw17.fr:=Zaa (n:=100000) (l:=[aw16,aw4]) follows Zab ⟨Zsc,⟨ZbM,trivial⟩⟩ (by kernel_rfl)
def aw18:Fact:=⟨66,[(.list (.ints .i64 [1,5,0,7,0,0,255])),(.fn 67 [])],(.int .i64 0),none⟩
theorem Zul:Zae Tryz.prog aw18.f aw18.args aw18.r aw18.fr:=Zaa (n:=100000) (l:=[aw5,aw8,aw11,aw14,aw17]) follows Zab ⟨Zlz,⟨Zvg,⟨ZjY,⟨Zun,⟨Zm5,trivial⟩⟩⟩⟩⟩ (by kernel_rfl)
def aw19:Fact:=⟨35,[(.list (.ints .i64 [1,5,0,7,0,0,255]))],(.int .i64 0),none⟩
theorem ZtT:Zae Tryz.prog aw19.f aw19.args aw19.r aw19.fr:=Zaa (n:=100000) (l:=[aw18]) follows Zab ⟨Zul,trivial⟩ (by kernel_rfl)
def aw20:Fact:=⟨33,[(.list (.ints .i64 [0,0,0]))],(.int .i64 0),none⟩
theorem ZfS:Zae Tryz.prog aw20.f aw20.args aw20.r aw20.fr:=Zaa (n:=100000) (l:=[]) follows Zab trivial (by kernel_rfl)
def aw21:Fact:=⟨42,[(.list (.ints .i64 [1,5,0,7,0,0,255]))],(.agg (.ints .i64 [18,76])),none⟩
theorem Zt6:Zae Tryz.prog aw21.f aw21.args aw21.r aw21.fr:=Zaa (n:=100000) (l:=[]) follows Zab trivial (by kernel_rfl)
def aw22:Fact:=⟨19,[(.list (.ints .i64 [1,5,0,7,0,0,255]))],(.tup [(.int .i64 4684),(.int .i64 0)]),none⟩
theorem ZtD:Zae Tryz.prog aw22.f aw22.args aw22.r aw22.fr:=Zaa (n:=100000) (l:=[aw0,aw1,aw19,aw20,aw21]) follows Zab ⟨ZhO,⟨Zhu,⟨ZtT,⟨ZfS,⟨Zt6,trivial⟩⟩⟩⟩⟩ (by kernel_rfl)
def aw23:Fact:=⟨21,[],(.agg (.gen [(.int .i64 4),(.int .i64 2)])),none⟩
theorem Zut:Zae Tryz.prog aw23.f aw23.args aw23.r aw23.fr:=Zaa (n:=100000) (l:=[]) follows Zab trivial (by kernel_rfl)
def aw24:Fact:=⟨22,[],(.list (.gen [(.agg (.gen [(.int .i64 9),(.int .i64 0),(.list (.ints .i64 [1,2]))])),(.agg (.gen [(.int .i64 9),(.int .i64 1),(.list (.ints .i64 [3]))]))])),none⟩
theorem Zus:Zae Tryz.prog aw24.f aw24.args aw24.r aw24.fr:=Zaa (n:=100000) (l:=[]) follows Zab trivial (by kernel_rfl)
def aw25:Fact:=⟨56,[(.int .i64 4),(.int .i64 4),(.int .i64 24)],(.bool true),none⟩
theorem Zt4:Zae Tryz.prog aw25.f aw25.args aw25.r aw25.fr:=Zaa (n:=100000) (l:=[]) follows Zab trivial (by kernel_rfl)
def aw26:Fact:=⟨56,[(.int .i64 2),(.int .i64 1),(.int .i64 4)],(.bool true),none⟩
theorem ZsM:Zae Tryz.prog aw26.f aw26.args aw26.r aw26.fr:=Zaa (n:=100000) (l:=[]) follows Zab trivial (by kernel_rfl)
def aw27:Fact:=⟨103,[(.agg (.gen [(.int .i64 4),(.int .i64 2)]))],(.int .i64 0),none⟩
theorem Zuu:Zae Tryz.prog aw27.f aw27.args aw27.r aw27.fr:=Zaa (n:=100000) (l:=[aw25,aw26,aw4]) follows Zab ⟨Zt4,⟨ZsM,⟨ZbM,trivial⟩⟩⟩ (by kernel_rfl)
def aw28:Fact:=⟨72,[(.agg (.gen [(.int .i64 4),(.int .i64 2)]))],(.tup [(.agg (.gen [(.int .i64 4),(.int .i64 2)])),(.int .i64 0)]),none⟩
theorem Zr5:Zae Tryz.prog aw28.f aw28.args aw28.r aw28.fr:=Zaa (n:=100000) (l:=[aw27]) follows Zab ⟨Zuu,trivial⟩ (by kernel_rfl)
def aw29:Fact:=⟨56,[(.int .i64 0),(.int .i64 0),(.int .i64 1)],(.bool true),none⟩
theorem ZsB:Zae Tryz.prog aw29.f aw29.args aw29.r aw29.fr:=Zaa (n:=100000) (l:=[]) follows Zab trivial (by kernel_rfl)
def aw30:Fact:=⟨34,[(.bool true),(.int .i64 6)],(.int .i64 0),none⟩
theorem ZsY:Zae Tryz.prog aw30.f aw30.args aw30.r aw30.fr:=Zaa (n:=100000) (l:=[]) follows Zab trivial (by kernel_rfl)
def aw31:Fact:=⟨73,[(.agg (.gen [(.int .i64 4),(.int .i64 2)])),(.int .i64 0)],(.int .i64 0),none⟩
theorem Zid:Zae Tryz.prog aw31.f aw31.args aw31.r aw31.fr:=Zaa (n:=100000) (l:=[aw29,aw30]) follows Zab ⟨ZsB,⟨ZsY,trivial⟩⟩ (by kernel_rfl)
def aw32:Fact:=⟨33,[(.list (.ints .i64 [0,0]))],(.int .i64 0),none⟩
theorem ZfH:Zae Tryz.prog aw32.f aw32.args aw32.r aw32.fr:=Zaa (n:=100000) (l:=[]) follows Zab trivial (by kernel_rfl)
def aw33:Fact:=⟨43,[(.agg (.gen [(.int .i64 4),(.int .i64 2)])),(.int .i64 0)],(.tup [(.agg (.gen [(.int .i64 4),(.int .i64 2)])),(.int .i64 0)]),none⟩
theorem ZnP:Zae Tryz.prog aw33.f aw33.args aw33.r aw33.fr:=Zaa (n:=100000) (l:=[aw28,aw31,aw32]) follows Zab ⟨Zr5,⟨Zid,⟨ZfH,trivial⟩⟩⟩ (by kernel_rfl)
def aw34:Fact:=⟨56,[(.int .i64 0),(.int .i64 0),(.int .i64 63)],(.bool true),none⟩
theorem Zsq:Zae Tryz.prog aw34.f aw34.args aw34.r aw34.fr:=Zaa (n:=100000) (l:=[]) follows Zab trivial (by kernel_rfl)
def aw35:Fact:=⟨44,[(.int .i64 0)],(.bool true),none⟩
theorem ZnY:Zae Tryz.prog aw35.f aw35.args aw35.r aw35.fr:=Zaa (n:=100000) (l:=[aw34]) follows Zab ⟨Zsq,trivial⟩ (by kernel_rfl)
def aw36:Fact:=⟨56,[(.int .i64 9),(.int .i64 0),(.int .i64 255)],(.bool true),none⟩
theorem ZtJ:Zae Tryz.prog aw36.f aw36.args aw36.r aw36.fr:=Zaa (n:=100000) (l:=[]) follows Zab trivial (by kernel_rfl)
def aw37:Fact:=⟨68,[(.int .i64 9)],(.bool true),none⟩
theorem Znz:Zae Tryz.prog aw37.f aw37.args aw37.r aw37.fr:=Zaa (n:=100000) (l:=[aw36]) follows Zab ⟨ZtJ,trivial⟩ (by kernel_rfl)
def aw38:Fact:=⟨67,[(.int .i64 2)],(.int .i64 0),none⟩
theorem Zjy:Zae Tryz.prog aw38.f aw38.args aw38.r aw38.fr:=Zaa (n:=100000) (l:=[]) follows Zab trivial (by kernel_rfl)
def aw39:Fact:=⟨66,[(.list (.ints .i64 [1,2])),(.fn 67 [])],(.int .i64 0),none⟩
theorem ZsX:Zae Tryz.prog aw39.f aw39.args aw39.r aw39.fr:=Zaa (n:=100000) (l:=[aw5,aw38]) follows Zab ⟨Zlz,⟨Zjy,trivial⟩⟩ (by kernel_rfl)
def aw40:Fact:=⟨35,[(.list (.ints .i64 [1,2]))],(.int .i64 0),none⟩
theorem Zt2:Zae Tryz.prog aw40.f aw40.args aw40.r aw40.fr:=Zaa (n:=100000) (l:=[aw39]) follows Zab ⟨ZsX,trivial⟩ (by kernel_rfl)
def aw41:Fact:=⟨36,[(.agg (.gen [(.int .i64 9),(.int .i64 0),(.list (.ints .i64 [1,2]))]))],(.int .i64 0),none⟩
theorem ZtH:Zae Tryz.prog aw41.f aw41.args aw41.r aw41.fr:=Zaa (n:=100000) (l:=[aw37,aw10,aw4,aw1,aw40,aw20]) follows Zab ⟨Znz,⟨ZoG,⟨ZbM,⟨Zhu,⟨Zt2,⟨ZfS,trivial⟩⟩⟩⟩⟩⟩ (by kernel_rfl)
def aw42:Fact:=⟨67,[(.int .i64 3)],(.int .i64 0),none⟩
theorem ZnO:Zae Tryz.prog aw42.f aw42.args aw42.r aw42.fr:=Zaa (n:=100000) (l:=[]) follows Zab trivial (by kernel_rfl)
def aw43:Fact:=⟨66,[(.list (.ints .i64 [3])),(.fn 67 [])],(.int .i64 0),none⟩
theorem ZtQ:Zae Tryz.prog aw43.f aw43.args aw43.r aw43.fr:=Zaa (n:=100000) (l:=[aw42]) follows Zab ⟨ZnO,trivial⟩ (by kernel_rfl)
def aw44:Fact:=⟨35,[(.list (.ints .i64 [3]))],(.int .i64 0),none⟩
theorem ZtE:Zae Tryz.prog aw44.f aw44.args aw44.r aw44.fr:=Zaa (n:=100000) (l:=[aw43]) follows Zab ⟨ZtQ,trivial⟩ (by kernel_rfl)
def aw45:Fact:=⟨36,[(.agg (.gen [(.int .i64 9),(.int .i64 1),(.list (.ints .i64 [3]))]))],(.int .i64 0),none⟩
theorem Zr4:Zae Tryz.prog aw45.f aw45.args aw45.r aw45.fr:=Zaa (n:=100000) (l:=[aw37,aw3,aw4,aw1,aw44,aw20]) follows Zab ⟨Znz,⟨ZrE,⟨ZbM,⟨Zhu,⟨ZtE,⟨ZfS,trivial⟩⟩⟩⟩⟩⟩ (by kernel_rfl)
def aw46:Fact:=⟨74,[(.list (.gen [(.agg (.gen [(.int .i64 9),(.int .i64 0),(.list (.ints .i64 [1,2]))])),(.agg (.gen [(.int .i64 9),(.int .i64 1),(.list (.ints .i64 [3]))]))])),(.fn 36 [])],(.int .i64 0),none⟩
theorem Zse:Zae Tryz.prog aw46.f aw46.args aw46.r aw46.fr:=Zaa (n:=100000) (l:=[aw41,aw45]) follows Zab ⟨ZtH,⟨Zr4,trivial⟩⟩ (by kernel_rfl)
def aw47:Fact:=⟨45,[(.list (.gen [(.agg (.gen [(.int .i64 9),(.int .i64 0),(.list (.ints .i64 [1,2]))])),(.agg (.gen [(.int .i64 9),(.int .i64 1),(.list (.ints .i64 [3]))]))]))],(.int .i64 0),none⟩
theorem Ztb:Zae Tryz.prog aw47.f aw47.args aw47.r aw47.fr:=Zaa (n:=100000) (l:=[aw1,aw46,aw32]) follows Zab ⟨Zhu,⟨Zse,⟨ZfH,trivial⟩⟩⟩ (by kernel_rfl)
def aw48:Fact:=⟨75,[(.list (.gen [(.agg (.gen [(.int .i64 9),(.int .i64 0),(.list (.ints .i64 [1,2]))])),(.agg (.gen [(.int .i64 9),(.int .i64 1),(.list (.ints .i64 [3]))]))]))],(.row 0 0),(some ⟨26,3,(.gen [(.agg (.gen [(.int .i64 9),(.int .i64 0),(.list (.ints .i64 [1,2]))])),(.agg (.gen [(.int .i64 9),(.int .i64 1),(.list (.ints .i64 [3]))]))])⟩)⟩
theorem ZsS:Zae Tryz.prog aw48.f aw48.args aw48.r aw48.fr:=Zaa (n:=100000) (l:=[]) follows Zab trivial (by kernel_rfl)
def aw49:Fact:=⟨47,[(.agg (.gen [(.int .i64 4),(.int .i64 2)])),(.list (.gen [(.agg (.gen [(.int .i64 9),(.int .i64 0),(.list (.ints .i64 [1,2]))])),(.agg (.gen [(.int .i64 9),(.int .i64 1),(.list (.ints .i64 [3]))]))]))],(.row 0 0),(some ⟨26,3,(.big (.agg [(.int .i64),(.int .i64),(.ints .i64)]) [(.agg (.gen [(.int .i64 9),(.int .i64 0),(.list (.ints .i64 [1,2]))])),(.agg (.gen [(.int .i64 9),(.int .i64 1),(.list (.ints .i64 [3]))])),(.agg (.gen [(.int .i64 255),(.int .i64 0),(.list (.ints .i64 []))]))])⟩)⟩
theorem ZtF:Zae Tryz.prog aw49.f aw49.args aw49.r aw49.fr:=Zaa (n:=100000) (l:=[aw48]) follows Zab ⟨ZsS,trivial⟩ (by kernel_rfl)
def aw50:Fact:=⟨46,[(.list (.big (.agg [(.int .i64),(.int .i64),(.ints .i64)]) [(.agg (.gen [(.int .i64 9),(.int .i64 0),(.list (.ints .i64 [1,2]))])),(.agg (.gen [(.int .i64 9),(.int .i64 1),(.list (.ints .i64 [3]))])),(.agg (.gen [(.int .i64 255),(.int .i64 0),(.list (.ints .i64 []))]))]))],(.tup [(.list (.ints .i64 [9,0,2,1,2,9,1,1,3,255,0,0])),(.list (.ints .i64 [0,5,9]))]),none⟩
theorem Zsf:Zae Tryz.prog aw50.f aw50.args aw50.r aw50.fr:=Zaa (n:=100000) (l:=[]) follows Zab trivial (by kernel_rfl)
def aw51:Fact:=⟨49,[(.list (.ints .i64 [9,0,2,1]))],(.row 0 0),(some ⟨3,1,(.ints .i64 [9,0,2,1])⟩)⟩
theorem Zur:Zae Tryz.prog aw51.f aw51.args aw51.r aw51.fr:=Zbu _ (by decide)
def aw52:Fact:=⟨104,[(.int .i64 5)],(.bool false),none⟩
theorem Zkr:Zae Tryz.prog aw52.f aw52.args aw52.r aw52.fr:=Zaa (n:=100000) (l:=[]) follows Zab trivial (by kernel_rfl)
def aw53:Fact:=⟨77,[(.int .i64 5),(.int .i64 0)],(.bool false),none⟩
theorem Zuj:Zae Tryz.prog aw53.f aw53.args aw53.r aw53.fr:=Zaa (n:=100000) (l:=[aw52]) follows Zab ⟨Zkr,trivial⟩ (by kernel_rfl)
def aw54:Fact:=⟨104,[(.int .i64 0)],(.bool false),none⟩
theorem Znk:Zae Tryz.prog aw54.f aw54.args aw54.r aw54.fr:=Zaa (n:=100000) (l:=[]) follows Zab trivial (by kernel_rfl)
def aw55:Fact:=⟨77,[(.int .i64 0),(.int .i64 0)],(.bool false),none⟩
theorem ZtB:Zae Tryz.prog aw55.f aw55.args aw55.r aw55.fr:=Zaa (n:=100000) (l:=[aw54]) follows Zab ⟨Znk,trivial⟩ (by kernel_rfl)
def aw56:Fact:=⟨50,[(.list (.ints .i64 [0,5,9])),(.int .i64 0)],(.tup [(.int .i64 0),(.bool true)]),none⟩
theorem Zt0:Zae Tryz.prog aw56.f aw56.args aw56.r aw56.fr:=Zaa (n:=100000) (l:=[aw53,aw55]) follows Zab ⟨Zuj,⟨ZtB,trivial⟩⟩ (by kernel_rfl)
def aw57:Fact:=⟨49,[(.list (.ints .i64 [2,9,1,1]))],(.row 0 0),(some ⟨3,1,(.ints .i64 [2,9,1,1])⟩)⟩
theorem Ztx:Zae Tryz.prog aw57.f aw57.args aw57.r aw57.fr:=Zbu _ (by decide)
def aw58:Fact:=⟨77,[(.int .i64 5),(.int .i64 4)],(.bool false),none⟩
theorem ZsJ:Zae Tryz.prog aw58.f aw58.args aw58.r aw58.fr:=Zaa (n:=100000) (l:=[aw52]) follows Zab ⟨Zkr,trivial⟩ (by kernel_rfl)
def aw59:Fact:=⟨77,[(.int .i64 0),(.int .i64 4)],(.bool true),none⟩
theorem Zst:Zae Tryz.prog aw59.f aw59.args aw59.r aw59.fr:=Zaa (n:=100000) (l:=[aw54]) follows Zab ⟨Znk,trivial⟩ (by kernel_rfl)
def aw60:Fact:=⟨78,[(.int .i64 5)],(.bool false),none⟩
theorem Zuw:Zae Tryz.prog aw60.f aw60.args aw60.r aw60.fr:=Zaa (n:=100000) (l:=[]) follows Zab trivial (by kernel_rfl)
def aw61:Fact:=⟨50,[(.list (.ints .i64 [0,5,9])),(.int .i64 4)],(.tup [(.int .i64 1),(.bool false)]),none⟩
theorem Zs6:Zae Tryz.prog aw61.f aw61.args aw61.r aw61.fr:=Zaa (n:=100000) (l:=[aw58,aw59,aw60]) follows Zab ⟨ZsJ,⟨Zst,⟨Zuw,trivial⟩⟩⟩ (by kernel_rfl)
def aw62:Fact:=⟨49,[(.list (.ints .i64 [3,255,0,0]))],(.row 0 0),(some ⟨3,1,(.ints .i64 [3,255,0,0])⟩)⟩
theorem Zr6:Zae Tryz.prog aw62.f aw62.args aw62.r aw62.fr:=Zbu _ (by decide)
def aw63:Fact:=⟨77,[(.int .i64 5),(.int .i64 8)],(.bool true),none⟩
theorem Ztk:Zae Tryz.prog aw63.f aw63.args aw63.r aw63.fr:=Zaa (n:=100000) (l:=[aw52]) follows Zab ⟨Zkr,trivial⟩ (by kernel_rfl)
def aw64:Fact:=⟨104,[(.int .i64 9)],(.bool false),none⟩
theorem Zs8:Zae Tryz.prog aw64.f aw64.args aw64.r aw64.fr:=Zaa (n:=100000) (l:=[]) follows Zab trivial (by kernel_rfl)
def aw65:Fact:=⟨77,[(.int .i64 9),(.int .i64 8)],(.bool false),none⟩
theorem Zsu:Zae Tryz.prog aw65.f aw65.args aw65.r aw65.fr:=Zaa (n:=100000) (l:=[aw64]) follows Zab ⟨Zs8,trivial⟩ (by kernel_rfl)
def aw66:Fact:=⟨78,[(.int .i64 9)],(.bool false),none⟩
theorem Ztl:Zae Tryz.prog aw66.f aw66.args aw66.r aw66.fr:=Zaa (n:=100000) (l:=[]) follows Zab trivial (by kernel_rfl)
def aw67:Fact:=⟨50,[(.list (.ints .i64 [0,5,9])),(.int .i64 8)],(.tup [(.int .i64 2),(.bool false)]),none⟩
theorem ZsW:Zae Tryz.prog aw67.f aw67.args aw67.r aw67.fr:=Zaa (n:=100000) (l:=[aw63,aw65,aw66]) follows Zab ⟨Ztk,⟨Zsu,⟨Ztl,trivial⟩⟩⟩ (by kernel_rfl)
def aw68:Fact:=⟨20,[(.agg (.gen [(.int .i64 4),(.int .i64 2)])),(.agg (.gen [(.int .i64 0),(.int .i64 0)])),(.list (.gen [(.agg (.gen [(.int .i64 9),(.int .i64 0),(.list (.ints .i64 [1,2]))])),(.agg (.gen [(.int .i64 9),(.int .i64 1),(.list (.ints .i64 [3]))]))]))],(.tup [(.list (.gen [(.agg (.gen [(.int .i64 0),(.int .i64 0),(.int .i64 0),(.list (.ints .i64 [9,0,2,1]))])),(.agg (.gen [(.int .i64 0),(.int .i64 1),(.int .i64 1),(.list (.ints .i64 [2,9,1,1]))])),(.agg (.gen [(.int .i64 0),(.int .i64 2),(.int .i64 1),(.list (.ints .i64 [3,255,0,0]))]))])),(.int .i64 0)]),none⟩
theorem Zs0:Zae Tryz.prog aw68.f aw68.args aw68.r aw68.fr:=Zaa (n:=100000) (l:=[aw33,aw35,aw4,aw47,aw20,aw49,aw50,aw51,aw56,aw57,aw61,aw62,aw67]) follows Zab ⟨ZnP,⟨ZnY,⟨ZbM,⟨Ztb,⟨ZfS,⟨ZtF,⟨Zsf,⟨Zur,⟨Zt0,⟨Ztx,⟨Zs6,⟨Zr6,⟨ZsW,trivial⟩⟩⟩⟩⟩⟩⟩⟩⟩⟩⟩⟩⟩ (by kernel_rfl)
def aw69:Fact:=⟨31,[(.list (.ints .i64 [9,0,2,1]))],(.row 0 0),(some ⟨3,1,(.ints .i64 [9,0,2,1])⟩)⟩
theorem ZsI:Zae Tryz.prog aw69.f aw69.args aw69.r aw69.fr:=Zaa (n:=100000) (l:=[]) follows Zab trivial (by kernel_rfl)
def aw70:Fact:=⟨6,[(.agg (.gen [(.int .i64 0),(.int .i64 0),(.int .i64 0),(.list (.ints .i64 [9,0,2,1]))]))],(.agg (.gen [(.int .i64 0),(.int .i64 0),(.int .i64 0),(.list (.ints .i64 [9,0,2,1]))])),none⟩
theorem Zsp:Zae Tryz.prog aw70.f aw70.args aw70.r aw70.fr:=Zaa (n:=100000) (l:=[aw69]) follows Zab ⟨ZsI,trivial⟩ (by kernel_rfl)
def aw71:Fact:=⟨31,[(.list (.ints .i64 [2,9,1,1]))],(.row 0 0),(some ⟨3,1,(.ints .i64 [2,9,1,1])⟩)⟩
theorem ZtC:Zae Tryz.prog aw71.f aw71.args aw71.r aw71.fr:=Zaa (n:=100000) (l:=[]) follows Zab trivial (by kernel_rfl)
def aw72:Fact:=⟨6,[(.agg (.gen [(.int .i64 0),(.int .i64 1),(.int .i64 1),(.list (.ints .i64 [2,9,1,1]))]))],(.agg (.gen [(.int .i64 0),(.int .i64 1),(.int .i64 1),(.list (.ints .i64 [2,9,1,1]))])),none⟩
theorem Zs9:Zae Tryz.prog aw72.f aw72.args aw72.r aw72.fr:=Zaa (n:=100000) (l:=[aw71]) follows Zab ⟨ZtC,trivial⟩ (by kernel_rfl)
def aw73:Fact:=⟨31,[(.list (.ints .i64 [3,255,0,0]))],(.row 0 0),(some ⟨3,1,(.ints .i64 [3,255,0,0])⟩)⟩
theorem Zum:Zae Tryz.prog aw73.f aw73.args aw73.r aw73.fr:=Zaa (n:=100000) (l:=[]) follows Zab trivial (by kernel_rfl)
def aw74:Fact:=⟨6,[(.agg (.gen [(.int .i64 0),(.int .i64 2),(.int .i64 1),(.list (.ints .i64 [3,255,0,0]))]))],(.agg (.gen [(.int .i64 0),(.int .i64 2),(.int .i64 1),(.list (.ints .i64 [3,255,0,0]))])),none⟩
theorem Zue:Zae Tryz.prog aw74.f aw74.args aw74.r aw74.fr:=Zaa (n:=100000) (l:=[aw73]) follows Zab ⟨Zum,trivial⟩ (by kernel_rfl)
def aw75:Fact:=⟨24,[(.list (.gen [(.agg (.gen [(.int .i64 0),(.int .i64 0),(.int .i64 0),(.list (.ints .i64 [9,0,2,1]))])),(.agg (.gen [(.int .i64 0),(.int .i64 1),(.int .i64 1),(.list (.ints .i64 [2,9,1,1]))])),(.agg (.gen [(.int .i64 0),(.int .i64 2),(.int .i64 1),(.list (.ints .i64 [3,255,0,0]))]))]))],(.row 0 0),(some ⟨24,4,(.big (.agg [(.int .i64),(.int .i64),(.int .i64),(.ints .i64)]) [(.agg (.gen [(.int .i64 0),(.int .i64 0),(.int .i64 0),(.list (.ints .i64 [9,0,2,1]))])),(.agg (.gen [(.int .i64 0),(.int .i64 1),(.int .i64 1),(.list (.ints .i64 [2,9,1,1]))])),(.agg (.gen [(.int .i64 0),(.int .i64 2),(.int .i64 1),(.list (.ints .i64 [3,255,0,0]))]))])⟩)⟩
theorem ZtO:Zae Tryz.prog aw75.f aw75.args aw75.r aw75.fr:=Zaa (n:=100000) (l:=[aw70,aw72,aw74]) follows Zab ⟨Zsp,⟨Zs9,⟨Zue,trivial⟩⟩⟩ (by kernel_rfl)
def aw76:Fact:=⟨56,[(.int .i64 0),(.int .i64 0),(.int .i64 3)],(.bool true),none⟩
theorem ZtV:Zae Tryz.prog aw76.f aw76.args aw76.r aw76.fr:=Zaa (n:=100000) (l:=[]) follows Zab trivial (by kernel_rfl)
def aw77:Fact:=⟨67,[(.int .i64 9)],(.int .i64 0),none⟩
theorem ZoD:Zae Tryz.prog aw77.f aw77.args aw77.r aw77.fr:=Zaa (n:=100000) (l:=[]) follows Zab trivial (by kernel_rfl)
def aw78:Fact:=⟨66,[(.list (.ints .i64 [9,0,2,1])),(.fn 67 [])],(.int .i64 0),none⟩
theorem Zr7:Zae Tryz.prog aw78.f aw78.args aw78.r aw78.fr:=Zaa (n:=100000) (l:=[aw77,aw11,aw38,aw5]) follows Zab ⟨ZoD,⟨ZjY,⟨Zjy,⟨Zlz,trivial⟩⟩⟩⟩ (by kernel_rfl)
def aw79:Fact:=⟨35,[(.list (.ints .i64 [9,0,2,1]))],(.int .i64 0),none⟩
theorem Zs4:Zae Tryz.prog aw79.f aw79.args aw79.r aw79.fr:=Zaa (n:=100000) (l:=[aw78]) follows Zab ⟨Zr7,trivial⟩ (by kernel_rfl)
def aw80:Fact:=⟨33,[(.list (.ints .i64 [0,0,0,0]))],(.int .i64 0),none⟩
theorem Zky:Zae Tryz.prog aw80.f aw80.args aw80.r aw80.fr:=Zaa (n:=100000) (l:=[]) follows Zab trivial (by kernel_rfl)
def aw81:Fact:=⟨80,[(.agg (.gen [(.int .i64 4),(.int .i64 2)])),(.agg (.gen [(.int .i64 0),(.int .i64 0),(.int .i64 0),(.list (.ints .i64 [9,0,2,1]))]))],(.int .i64 0),none⟩
theorem Zsr:Zae Tryz.prog aw81.f aw81.args aw81.r aw81.fr:=Zaa (n:=100000) (l:=[aw31,aw35,aw76,aw4,aw0,aw79,aw80]) follows Zab ⟨Zid,⟨ZnY,⟨ZtV,⟨ZbM,⟨ZhO,⟨Zs4,⟨Zky,trivial⟩⟩⟩⟩⟩⟩⟩ (by kernel_rfl)
def aw82:Fact:=⟨56,[(.int .i64 1),(.int .i64 0),(.int .i64 63)],(.bool true),none⟩
theorem Zts:Zae Tryz.prog aw82.f aw82.args aw82.r aw82.fr:=Zaa (n:=100000) (l:=[]) follows Zab trivial (by kernel_rfl)
def aw83:Fact:=⟨44,[(.int .i64 1)],(.bool true),none⟩
theorem Zt9:Zae Tryz.prog aw83.f aw83.args aw83.r aw83.fr:=Zaa (n:=100000) (l:=[aw82]) follows Zab ⟨Zts,trivial⟩ (by kernel_rfl)
def aw84:Fact:=⟨56,[(.int .i64 1),(.int .i64 0),(.int .i64 3)],(.bool true),none⟩
theorem Zoe:Zae Tryz.prog aw84.f aw84.args aw84.r aw84.fr:=Zaa (n:=100000) (l:=[]) follows Zab trivial (by kernel_rfl)
def aw85:Fact:=⟨66,[(.list (.ints .i64 [2,9,1,1])),(.fn 67 [])],(.int .i64 0),none⟩
theorem Ztt:Zae Tryz.prog aw85.f aw85.args aw85.r aw85.fr:=Zaa (n:=100000) (l:=[aw38,aw77,aw5]) follows Zab ⟨Zjy,⟨ZoD,⟨Zlz,trivial⟩⟩⟩ (by kernel_rfl)
def aw86:Fact:=⟨35,[(.list (.ints .i64 [2,9,1,1]))],(.int .i64 0),none⟩
theorem Ztr:Zae Tryz.prog aw86.f aw86.args aw86.r aw86.fr:=Zaa (n:=100000) (l:=[aw85]) follows Zab ⟨Ztt,trivial⟩ (by kernel_rfl)
def aw87:Fact:=⟨80,[(.agg (.gen [(.int .i64 4),(.int .i64 2)])),(.agg (.gen [(.int .i64 0),(.int .i64 1),(.int .i64 1),(.list (.ints .i64 [2,9,1,1]))]))],(.int .i64 0),none⟩
theorem Zui:Zae Tryz.prog aw87.f aw87.args aw87.r aw87.fr:=Zaa (n:=100000) (l:=[aw31,aw83,aw84,aw4,aw0,aw86,aw80]) follows Zab ⟨Zid,⟨Zt9,⟨Zoe,⟨ZbM,⟨ZhO,⟨Ztr,⟨Zky,trivial⟩⟩⟩⟩⟩⟩⟩ (by kernel_rfl)
def aw88:Fact:=⟨56,[(.int .i64 2),(.int .i64 0),(.int .i64 63)],(.bool true),none⟩
theorem Ztv:Zae Tryz.prog aw88.f aw88.args aw88.r aw88.fr:=Zaa (n:=100000) (l:=[]) follows Zab trivial (by kernel_rfl)
def aw89:Fact:=⟨44,[(.int .i64 2)],(.bool true),none⟩
theorem ZtY:Zae Tryz.prog aw89.f aw89.args aw89.r aw89.fr:=Zaa (n:=100000) (l:=[aw88]) follows Zab ⟨Ztv,trivial⟩ (by kernel_rfl)
def aw90:Fact:=⟨66,[(.list (.ints .i64 [3,255,0,0])),(.fn 67 [])],(.int .i64 0),none⟩
theorem Zsd:Zae Tryz.prog aw90.f aw90.args aw90.r aw90.fr:=Zaa (n:=100000) (l:=[aw42,aw17,aw11]) follows Zab ⟨ZnO,⟨Zm5,⟨ZjY,trivial⟩⟩⟩ (by kernel_rfl)
def aw91:Fact:=⟨35,[(.list (.ints .i64 [3,255,0,0]))],(.int .i64 0),none⟩
theorem Zr8:Zae Tryz.prog aw91.f aw91.args aw91.r aw91.fr:=Zaa (n:=100000) (l:=[aw90]) follows Zab ⟨Zsd,trivial⟩ (by kernel_rfl)
def aw92:Fact:=⟨80,[(.agg (.gen [(.int .i64 4),(.int .i64 2)])),(.agg (.gen [(.int .i64 0),(.int .i64 2),(.int .i64 1),(.list (.ints .i64 [3,255,0,0]))]))],(.int .i64 0),none⟩
theorem Zsg:Zae Tryz.prog aw92.f aw92.args aw92.r aw92.fr:=Zaa (n:=100000) (l:=[aw31,aw89,aw84,aw4,aw0,aw91,aw80]) follows Zab ⟨Zid,⟨ZtY,⟨Zoe,⟨ZbM,⟨ZhO,⟨Zr8,⟨Zky,trivial⟩⟩⟩⟩⟩⟩⟩ (by kernel_rfl)
def aw93:Fact:=⟨79,[(.list (.big (.agg [(.int .i64),(.int .i64),(.int .i64),(.ints .i64)]) [(.agg (.gen [(.int .i64 0),(.int .i64 0),(.int .i64 0),(.list (.ints .i64 [9,0,2,1]))])),(.agg (.gen [(.int .i64 0),(.int .i64 1),(.int .i64 1),(.list (.ints .i64 [2,9,1,1]))])),(.agg (.gen [(.int .i64 0),(.int .i64 2),(.int .i64 1),(.list (.ints .i64 [3,255,0,0]))]))])),(.val (.func (.func 80) ⟨[(.agg ⟨[(.int .i64 4),(.int .i64 2)]⟩)]⟩ ⟨[]⟩))],(.int .i64 0),none⟩
theorem Zsk:Zae Tryz.prog aw93.f aw93.args aw93.r aw93.fr:=Zaa (n:=100000) (l:=[aw81,aw87,aw92]) follows Zab ⟨Zsr,⟨Zui,⟨Zsg,trivial⟩⟩⟩ (by kernel_rfl)
def aw94:Fact:=⟨51,[(.agg (.gen [(.int .i64 4),(.int .i64 2)])),(.int .i64 0),(.list (.big (.agg [(.int .i64),(.int .i64),(.int .i64),(.ints .i64)]) [(.agg (.gen [(.int .i64 0),(.int .i64 0),(.int .i64 0),(.list (.ints .i64 [9,0,2,1]))])),(.agg (.gen [(.int .i64 0),(.int .i64 1),(.int .i64 1),(.list (.ints .i64 [2,9,1,1]))])),(.agg (.gen [(.int .i64 0),(.int .i64 2),(.int .i64 1),(.list (.ints .i64 [3,255,0,0]))]))]))],(.tup [(.agg (.gen [(.int .i64 4),(.int .i64 2)])),(.int .i64 0)]),none⟩
theorem ZnK:Zae Tryz.prog aw94.f aw94.args aw94.r aw94.fr:=Zaa (n:=100000) (l:=[aw33,aw1,aw93,aw20]) follows Zab ⟨ZnP,⟨Zhu,⟨Zsk,⟨ZfS,trivial⟩⟩⟩⟩ (by kernel_rfl)
def aw95:Fact:=⟨83,[(.int .i64 65),(.int .i64 64)],(.int .i64 1),none⟩
theorem Zto:Zae Tryz.prog aw95.f aw95.args aw95.r aw95.fr:=Zaa (n:=100000) (l:=[]) follows Zab trivial (by kernel_rfl)
def aw96:Fact:=⟨82,[(.agg (.gen [(.int .i64 0),(.int .i64 1),(.int .i64 1),(.list (.ints .i64 [2,9,1,1])),(.int .i64 65)])),(.agg (.gen [(.int .i64 0),(.int .i64 0),(.int .i64 0),(.list (.ints .i64 [9,0,2,1])),(.int .i64 64)]))],(.int .i64 1),none⟩
theorem Zso:Zae Tryz.prog aw96.f aw96.args aw96.r aw96.fr:=Zaa (n:=100000) (l:=[aw95]) follows Zab ⟨Zto,trivial⟩ (by kernel_rfl)
def aw97:Fact:=⟨83,[(.int .i64 66),(.int .i64 65)],(.int .i64 1),none⟩
theorem ZsK:Zae Tryz.prog aw97.f aw97.args aw97.r aw97.fr:=Zaa (n:=100000) (l:=[]) follows Zab trivial (by kernel_rfl)
def aw98:Fact:=⟨82,[(.agg (.gen [(.int .i64 0),(.int .i64 2),(.int .i64 1),(.list (.ints .i64 [3,255,0,0])),(.int .i64 66)])),(.agg (.gen [(.int .i64 0),(.int .i64 1),(.int .i64 1),(.list (.ints .i64 [2,9,1,1])),(.int .i64 65)]))],(.int .i64 1),none⟩
theorem Zt7:Zae Tryz.prog aw98.f aw98.args aw98.r aw98.fr:=Zaa (n:=100000) (l:=[aw97]) follows Zab ⟨ZsK,trivial⟩ (by kernel_rfl)
def aw99:Fact:=⟨118,[(.list (.big (.agg [(.int .i64),(.int .i64),(.int .i64),(.ints .i64),(.int .i64)]) [(.agg (.gen [(.int .i64 0),(.int .i64 0),(.int .i64 0),(.list (.ints .i64 [9,0,2,1])),(.int .i64 64)])),(.agg (.gen [(.int .i64 0),(.int .i64 1),(.int .i64 1),(.list (.ints .i64 [2,9,1,1])),(.int .i64 65)])),(.agg (.gen [(.int .i64 0),(.int .i64 2),(.int .i64 1),(.list (.ints .i64 [3,255,0,0])),(.int .i64 66)]))])),(.int .i64 0),(.int .i64 3),(.fn 82 [])],(.tup []),none⟩
theorem ZtX:Zae Tryz.prog aw99.f aw99.args aw99.r aw99.fr:=Zaa (n:=100000) (l:=[aw96,aw98]) follows Zab ⟨Zso,⟨Zt7,trivial⟩⟩ (by kernel_rfl)
def aw100:Fact:=⟨105,[(.list (.big (.agg [(.int .i64),(.int .i64),(.int .i64),(.ints .i64),(.int .i64)]) [(.agg (.gen [(.int .i64 0),(.int .i64 0),(.int .i64 0),(.list (.ints .i64 [9,0,2,1])),(.int .i64 64)])),(.agg (.gen [(.int .i64 0),(.int .i64 1),(.int .i64 1),(.list (.ints .i64 [2,9,1,1])),(.int .i64 65)])),(.agg (.gen [(.int .i64 0),(.int .i64 2),(.int .i64 1),(.list (.ints .i64 [3,255,0,0])),(.int .i64 66)]))])),(.int .i64 3),(.fn 82 [])],(.tup []),none⟩
theorem Zrv:Zae Tryz.prog aw100.f aw100.args aw100.r aw100.fr:=Zaa (n:=100000) (l:=[aw99]) follows Zab ⟨ZtX,trivial⟩ (by kernel_rfl)
def aw101:Fact:=⟨81,[(.list (.big (.agg [(.int .i64),(.int .i64),(.int .i64),(.ints .i64),(.int .i64)]) [(.agg (.gen [(.int .i64 0),(.int .i64 0),(.int .i64 0),(.list (.ints .i64 [9,0,2,1])),(.int .i64 64)])),(.agg (.gen [(.int .i64 0),(.int .i64 1),(.int .i64 1),(.list (.ints .i64 [2,9,1,1])),(.int .i64 65)])),(.agg (.gen [(.int .i64 0),(.int .i64 2),(.int .i64 1),(.list (.ints .i64 [3,255,0,0])),(.int .i64 66)]))])),(.fn 82 [])],(.tup []),none⟩
theorem Zlq:Zae Tryz.prog aw101.f aw101.args aw101.r aw101.fr:=Zaa (n:=100000) (l:=[aw100]) follows Zab ⟨Zrv,trivial⟩ (by kernel_rfl)
def aw102:Fact:=⟨85,[(.agg (.gen [(.int .i64 0),(.int .i64 1),(.int .i64 1),(.list (.ints .i64 [2,9,1,1])),(.int .i64 65)])),(.agg (.gen [(.int .i64 0),(.int .i64 0),(.int .i64 0),(.list (.ints .i64 [9,0,2,1])),(.int .i64 64)]))],(.bool false),none⟩
theorem Ziw:Zae Tryz.prog aw102.f aw102.args aw102.r aw102.fr:=Zaa (n:=100000) (l:=[]) follows Zab trivial (by kernel_rfl)
def aw103:Fact:=⟨85,[(.agg (.gen [(.int .i64 0),(.int .i64 2),(.int .i64 1),(.list (.ints .i64 [3,255,0,0])),(.int .i64 66)])),(.agg (.gen [(.int .i64 0),(.int .i64 1),(.int .i64 1),(.list (.ints .i64 [2,9,1,1])),(.int .i64 65)]))],(.bool false),none⟩
theorem Zin:Zae Tryz.prog aw103.f aw103.args aw103.r aw103.fr:=Zaa (n:=100000) (l:=[]) follows Zab trivial (by kernel_rfl)
def aw104:Fact:=⟨84,[(.list (.big (.agg [(.int .i64),(.int .i64),(.int .i64),(.ints .i64),(.int .i64)]) [(.agg (.gen [(.int .i64 0),(.int .i64 0),(.int .i64 0),(.list (.ints .i64 [9,0,2,1])),(.int .i64 64)])),(.agg (.gen [(.int .i64 0),(.int .i64 1),(.int .i64 1),(.list (.ints .i64 [2,9,1,1])),(.int .i64 65)])),(.agg (.gen [(.int .i64 0),(.int .i64 2),(.int .i64 1),(.list (.ints .i64 [3,255,0,0])),(.int .i64 66)]))])),(.fn 85 [])],(.list (.big (.agg [(.int .i64),(.int .i64),(.int .i64),(.ints .i64),(.int .i64)]) [(.agg (.gen [(.int .i64 0),(.int .i64 0),(.int .i64 0),(.list (.ints .i64 [9,0,2,1])),(.int .i64 64)])),(.agg (.gen [(.int .i64 0),(.int .i64 1),(.int .i64 1),(.list (.ints .i64 [2,9,1,1])),(.int .i64 65)])),(.agg (.gen [(.int .i64 0),(.int .i64 2),(.int .i64 1),(.list (.ints .i64 [3,255,0,0])),(.int .i64 66)]))])),none⟩
theorem ZkT:Zae Tryz.prog aw104.f aw104.args aw104.r aw104.fr:=Zaa (n:=100000) (l:=[aw102,aw103]) follows Zab ⟨Ziw,⟨Zin,trivial⟩⟩ (by kernel_rfl)
def aw105:Fact:=⟨52,[(.int .i64 0),(.list (.big (.agg [(.int .i64),(.int .i64),(.int .i64),(.ints .i64)]) [(.agg (.gen [(.int .i64 0),(.int .i64 0),(.int .i64 0),(.list (.ints .i64 [9,0,2,1]))])),(.agg (.gen [(.int .i64 0),(.int .i64 1),(.int .i64 1),(.list (.ints .i64 [2,9,1,1]))])),(.agg (.gen [(.int .i64 0),(.int .i64 2),(.int .i64 1),(.list (.ints .i64 [3,255,0,0]))]))]))],(.row 0 0),(some ⟨110,5,(.big (.agg [(.int .i64),(.int .i64),(.int .i64),(.ints .i64),(.int .i64)]) [(.agg (.gen [(.int .i64 0),(.int .i64 0),(.int .i64 0),(.list (.ints .i64 [9,0,2,1])),(.int .i64 64)])),(.agg (.gen [(.int .i64 0),(.int .i64 1),(.int .i64 1),(.list (.ints .i64 [2,9,1,1])),(.int .i64 65)])),(.agg (.gen [(.int .i64 0),(.int .i64 2),(.int .i64 1),(.list (.ints .i64 [3,255,0,0])),(.int .i64 66)]))])⟩)⟩
theorem Zlg:Zae Tryz.prog aw105.f aw105.args aw105.r aw105.fr:=Zaa (n:=100000) (l:=[aw101,aw104,aw102,aw103]) follows Zab ⟨Zlq,⟨ZkT,⟨Ziw,⟨Zin,trivial⟩⟩⟩⟩ (by kernel_rfl)
def aw106:Fact:=⟨61,[(.list (.gen [.nils,(.list (.ints .i64 [9,0,2,1]))]))],(.row 0 0),(some ⟨3,1,(.ints .i64 [9,0,2,1])⟩)⟩
theorem ZlH:Zae Tryz.prog aw106.f aw106.args aw106.r aw106.fr:=Zaa (n:=100000) (l:=[]) follows Zab trivial (by kernel_rfl)
def aw107:Fact:=⟨61,[(.list (.big (.ints .i64) [(.list (.ints .i64 [9,0,2,1])),(.list (.ints .i64 [2,9,1,1]))]))],(.row 0 0),(some ⟨3,1,(.ints .i64 [9,0,2,1,2,9,1,1])⟩)⟩
theorem ZoS:Zae Tryz.prog aw107.f aw107.args aw107.r aw107.fr:=Zaa (n:=100000) (l:=[]) follows Zab trivial (by kernel_rfl)
def aw108:Fact:=⟨86,[(.eptr (.agg (.gen [(.bool true),(.list (.ints .i64 [9,0,2,1])), .nils])) 0),(.agg (.gen [(.int .i64 0),(.int .i64 1),(.int .i64 1),(.list (.ints .i64 [2,9,1,1]))]))],(.int .i64 1),none⟩
theorem Zlc:Zae Tryz.prog aw108.f aw108.args aw108.r aw108.fr:=Zaa (n:=100000) (l:=[aw107]) follows Zab ⟨ZoS,trivial⟩ (by kernel_rfl)
def aw109:Fact:=⟨61,[(.list (.gen [(.list (.ints .i64 [9,0,2,1])),(.list (.ints .i64 [2,9,1,1]))]))],(.row 0 0),(some ⟨3,1,(.ints .i64 [9,0,2,1,2,9,1,1])⟩)⟩
theorem ZlA:Zae Tryz.prog aw109.f aw109.args aw109.r aw109.fr:=Zaa (n:=100000) (l:=[]) follows Zab trivial (by kernel_rfl)
def aw110:Fact:=⟨49,[(.list (.ints .i64 [1,2]))],(.row 0 0),(some ⟨3,1,(.ints .i64 [1,2])⟩)⟩
theorem ZkY:Zae Tryz.prog aw110.f aw110.args aw110.r aw110.fr:=Zbu _ (by decide)
def aw111:Fact:=⟨61,[(.list (.big (.ints .i64) [(.list (.ints .i64 [9,1,1])),(.list (.ints .i64 [3,255,0,0]))]))],(.row 0 0),(some ⟨3,1,(.ints .i64 [9,1,1,3,255,0,0])⟩)⟩
theorem ZpY:Zae Tryz.prog aw111.f aw111.args aw111.r aw111.fr:=Zaa (n:=100000) (l:=[]) follows Zab trivial (by kernel_rfl)
def aw112:Fact:=⟨86,[(.eptr (.agg (.gen [(.bool true),(.list (.ints .i64 [9,1,1])),(.list (.gen [(.agg (.gen [(.int .i64 9),(.int .i64 0),(.list (.ints .i64 [1,2]))]))]))])) 0),(.agg (.gen [(.int .i64 0),(.int .i64 2),(.int .i64 1),(.list (.ints .i64 [3,255,0,0]))]))],(.int .i64 1),none⟩
theorem ZkL:Zae Tryz.prog aw112.f aw112.args aw112.r aw112.fr:=Zaa (n:=100000) (l:=[aw111]) follows Zab ⟨ZpY,trivial⟩ (by kernel_rfl)
def aw113:Fact:=⟨61,[(.list (.gen [(.list (.ints .i64 [9,1,1])),(.list (.ints .i64 [3,255,0,0]))]))],(.row 0 0),(some ⟨3,1,(.ints .i64 [9,1,1,3,255,0,0])⟩)⟩
theorem ZkN:Zae Tryz.prog aw113.f aw113.args aw113.r aw113.fr:=Zaa (n:=100000) (l:=[]) follows Zab trivial (by kernel_rfl)
def aw114:Fact:=⟨49,[(.list (.ints .i64 [3]))],(.row 0 0),(some ⟨3,1,(.ints .i64 [3])⟩)⟩
theorem Zk3:Zae Tryz.prog aw114.f aw114.args aw114.r aw114.fr:=Zbu _ (by decide)
def aw115:Fact:=⟨49,[(.list (.ints .i64 []))],(.row 0 0),(some ⟨3,1,(.ints .i64 [])⟩)⟩
theorem Zll:Zae Tryz.prog aw115.f aw115.args aw115.r aw115.fr:=Zbu _ (by decide)
def aw116:Fact:=⟨23,[(.agg (.gen [(.int .i64 4),(.int .i64 2)])),(.int .i64 0),(.list (.big (.agg [(.int .i64),(.int .i64),(.int .i64),(.ints .i64)]) [(.agg (.gen [(.int .i64 0),(.int .i64 0),(.int .i64 0),(.list (.ints .i64 [9,0,2,1]))])),(.agg (.gen [(.int .i64 0),(.int .i64 1),(.int .i64 1),(.list (.ints .i64 [2,9,1,1]))])),(.agg (.gen [(.int .i64 0),(.int .i64 2),(.int .i64 1),(.list (.ints .i64 [3,255,0,0]))]))]))],(.tup [(.list (.gen [(.agg (.gen [(.int .i64 9),(.int .i64 0),(.list (.ints .i64 [1,2]))])),(.agg (.gen [(.int .i64 9),(.int .i64 1),(.list (.ints .i64 [3]))]))])),(.int .i64 0)]),none⟩
theorem ZoW:Zae Tryz.prog aw116.f aw116.args aw116.r aw116.fr:=Zaa (n:=100000) (l:=[aw94,aw105,aw106,aw108,aw109,aw110,aw112,aw113,aw114,aw115]) follows Zab ⟨ZnK,⟨Zlg,⟨ZlH,⟨Zlc,⟨ZlA,⟨ZkY,⟨ZkL,⟨ZkN,⟨Zk3,⟨Zll,trivial⟩⟩⟩⟩⟩⟩⟩⟩⟩⟩ (by kernel_rfl)
def aw122:Fact:=⟨26,[],(.row 0 0),(some ⟨115,3,(.big (.agg [(.int .i64),(.int .i64),(.int .i64)]) [(.agg (.gen [(.int .i64 0),(.int .i64 10),(.int .i64 12)])),(.agg (.gen [(.int .i64 10),(.int .i64 30),(.int .i64 32)])),(.agg (.gen [(.int .i64 20),(.int .i64 50),(.int .i64 51)]))])⟩)⟩
theorem ZoO:Zae Tryz.prog aw122.f aw122.args aw122.r aw122.fr:=Zaa (n:=100000) (l:=[]) follows Zab trivial (by kernel_rfl)
def aw123:Fact:=⟨56,[(.int .i64 0),(.int .i64 0),(.int .i64 1000000)],(.bool true),none⟩
theorem Zrx:Zae Tryz.prog aw123.f aw123.args aw123.r aw123.fr:=Zaa (n:=100000) (l:=[]) follows Zab trivial (by kernel_rfl)
def aw124:Fact:=⟨56,[(.int .i64 10),(.int .i64 0),(.int .i64 1000000000000)],(.bool true),none⟩
theorem Zqv:Zae Tryz.prog aw124.f aw124.args aw124.r aw124.fr:=Zaa (n:=100000) (l:=[]) follows Zab trivial (by kernel_rfl)
def aw125:Fact:=⟨106,[(.int .i64 10)],(.bool true),none⟩
theorem Zpa:Zae Tryz.prog aw125.f aw125.args aw125.r aw125.fr:=Zaa (n:=100000) (l:=[aw124]) follows Zab ⟨Zqv,trivial⟩ (by kernel_rfl)
def aw126:Fact:=⟨56,[(.int .i64 12),(.int .i64 0),(.int .i64 1000000000000)],(.bool true),none⟩
theorem ZpW:Zae Tryz.prog aw126.f aw126.args aw126.r aw126.fr:=Zaa (n:=100000) (l:=[]) follows Zab trivial (by kernel_rfl)
def aw127:Fact:=⟨106,[(.int .i64 12)],(.bool true),none⟩
theorem ZoV:Zae Tryz.prog aw127.f aw127.args aw127.r aw127.fr:=Zaa (n:=100000) (l:=[aw126]) follows Zab ⟨ZpW,trivial⟩ (by kernel_rfl)
def aw128:Fact:=⟨34,[(.bool true),(.int .i64 9)],(.int .i64 0),none⟩
theorem ZqW:Zae Tryz.prog aw128.f aw128.args aw128.r aw128.fr:=Zaa (n:=100000) (l:=[]) follows Zab trivial (by kernel_rfl)
def aw129:Fact:=⟨56,[(.int .i64 10),(.int .i64 0),(.int .i64 1000000)],(.bool true),none⟩
theorem Zri:Zae Tryz.prog aw129.f aw129.args aw129.r aw129.fr:=Zaa (n:=100000) (l:=[]) follows Zab trivial (by kernel_rfl)
def aw130:Fact:=⟨56,[(.int .i64 30),(.int .i64 0),(.int .i64 1000000000000)],(.bool true),none⟩
theorem Zpy:Zae Tryz.prog aw130.f aw130.args aw130.r aw130.fr:=Zaa (n:=100000) (l:=[]) follows Zab trivial (by kernel_rfl)
def aw131:Fact:=⟨106,[(.int .i64 30)],(.bool true),none⟩
theorem Zqt:Zae Tryz.prog aw131.f aw131.args aw131.r aw131.fr:=Zaa (n:=100000) (l:=[aw130]) follows Zab ⟨Zpy,trivial⟩ (by kernel_rfl)
def aw132:Fact:=⟨56,[(.int .i64 32),(.int .i64 0),(.int .i64 1000000000000)],(.bool true),none⟩
theorem Zqh:Zae Tryz.prog aw132.f aw132.args aw132.r aw132.fr:=Zaa (n:=100000) (l:=[]) follows Zab trivial (by kernel_rfl)
def aw133:Fact:=⟨106,[(.int .i64 32)],(.bool true),none⟩
theorem Zq1:Zae Tryz.prog aw133.f aw133.args aw133.r aw133.fr:=Zaa (n:=100000) (l:=[aw132]) follows Zab ⟨Zqh,trivial⟩ (by kernel_rfl)
def aw134:Fact:=⟨56,[(.int .i64 20),(.int .i64 0),(.int .i64 1000000)],(.bool true),none⟩
theorem ZqQ:Zae Tryz.prog aw134.f aw134.args aw134.r aw134.fr:=Zaa (n:=100000) (l:=[]) follows Zab trivial (by kernel_rfl)
def aw135:Fact:=⟨56,[(.int .i64 50),(.int .i64 0),(.int .i64 1000000000000)],(.bool true),none⟩
theorem Zrb:Zae Tryz.prog aw135.f aw135.args aw135.r aw135.fr:=Zaa (n:=100000) (l:=[]) follows Zab trivial (by kernel_rfl)
def aw136:Fact:=⟨106,[(.int .i64 50)],(.bool true),none⟩
theorem Zrz:Zae Tryz.prog aw136.f aw136.args aw136.r aw136.fr:=Zaa (n:=100000) (l:=[aw135]) follows Zab ⟨Zrb,trivial⟩ (by kernel_rfl)
def aw137:Fact:=⟨56,[(.int .i64 51),(.int .i64 0),(.int .i64 1000000000000)],(.bool true),none⟩
theorem Zrp:Zae Tryz.prog aw137.f aw137.args aw137.r aw137.fr:=Zaa (n:=100000) (l:=[]) follows Zab trivial (by kernel_rfl)
def aw138:Fact:=⟨106,[(.int .i64 51)],(.bool true),none⟩
theorem ZpN:Zae Tryz.prog aw138.f aw138.args aw138.r aw138.fr:=Zaa (n:=100000) (l:=[aw137]) follows Zab ⟨Zrp,trivial⟩ (by kernel_rfl)
def aw139:Fact:=⟨88,[(.list (.big (.agg [(.int .i64),(.int .i64),(.int .i64)]) [(.agg (.gen [(.int .i64 0),(.int .i64 10),(.int .i64 12)])),(.agg (.gen [(.int .i64 10),(.int .i64 30),(.int .i64 32)])),(.agg (.gen [(.int .i64 20),(.int .i64 50),(.int .i64 51)]))]))],(.tup [(.int .i64 0),(.int .i64 0)]),none⟩
theorem Zru:Zae Tryz.prog aw139.f aw139.args aw139.r aw139.fr:=Zaa (n:=100000) (l:=[aw0,aw1,aw32,aw123,aw125,aw127,aw4,aw128,aw129,aw131,aw133,aw134,aw136,aw138]) follows Zab ⟨ZhO,⟨Zhu,⟨ZfH,⟨Zrx,⟨Zpa,⟨ZoV,⟨ZbM,⟨ZqW,⟨Zri,⟨Zqt,⟨Zq1,⟨ZqQ,⟨Zrz,⟨ZpN,trivial⟩⟩⟩⟩⟩⟩⟩⟩⟩⟩⟩⟩⟩⟩ (by kernel_rfl)
def aw140:Fact:=⟨90,[(.int .i64 18),(.int .i64 10)],(.agg (.gen [(.int .i64 9),(.int .i64 5)])),none⟩
theorem ZqB:Zae Tryz.prog aw140.f aw140.args aw140.r aw140.fr:=Zaa (n:=100000) (l:=[]) follows Zab trivial (by kernel_rfl)
def aw141:Fact:=⟨90,[(.int .i64 22),(.int .i64 10)],(.agg (.gen [(.int .i64 11),(.int .i64 5)])),none⟩
theorem ZpX:Zae Tryz.prog aw141.f aw141.args aw141.r aw141.fr:=Zaa (n:=100000) (l:=[]) follows Zab trivial (by kernel_rfl)
def aw142:Fact:=⟨90,[(.int .i64 38),(.int .i64 20)],(.agg (.gen [(.int .i64 19),(.int .i64 10)])),none⟩
theorem Zpq:Zae Tryz.prog aw142.f aw142.args aw142.r aw142.fr:=Zaa (n:=100000) (l:=[]) follows Zab trivial (by kernel_rfl)
def aw143:Fact:=⟨90,[(.int .i64 41),(.int .i64 20)],(.agg (.gen [(.int .i64 41),(.int .i64 20)])),none⟩
theorem Zo5:Zae Tryz.prog aw143.f aw143.args aw143.r aw143.fr:=Zaa (n:=100000) (l:=[]) follows Zab trivial (by kernel_rfl)
def aw144:Fact:=⟨91,[(.agg (.gen [(.int .i64 9),(.int .i64 5)])),(.agg (.gen [(.int .i64 19),(.int .i64 10)]))],(.bool true),none⟩
theorem ZqX:Zae Tryz.prog aw144.f aw144.args aw144.r aw144.fr:=Zaa (n:=100000) (l:=[]) follows Zab trivial (by kernel_rfl)
def aw145:Fact:=⟨91,[(.agg (.gen [(.int .i64 41),(.int .i64 20)])),(.agg (.gen [(.int .i64 11),(.int .i64 5)]))],(.bool true),none⟩
theorem ZqJ:Zae Tryz.prog aw145.f aw145.args aw145.r aw145.fr:=Zaa (n:=100000) (l:=[]) follows Zab trivial (by kernel_rfl)
def aw146:Fact:=⟨90,[(.int .i64 21),(.int .i64 10)],(.agg (.gen [(.int .i64 21),(.int .i64 10)])),none⟩
theorem Zqe:Zae Tryz.prog aw146.f aw146.args aw146.r aw146.fr:=Zaa (n:=100000) (l:=[]) follows Zab trivial (by kernel_rfl)
def aw147:Fact:=⟨91,[(.agg (.gen [(.int .i64 19),(.int .i64 10)])),(.agg (.gen [(.int .i64 9),(.int .i64 5)]))],(.bool false),none⟩
theorem Zo1:Zae Tryz.prog aw147.f aw147.args aw147.r aw147.fr:=Zaa (n:=100000) (l:=[]) follows Zab trivial (by kernel_rfl)
def aw148:Fact:=⟨91,[(.agg (.gen [(.int .i64 21),(.int .i64 10)])),(.agg (.gen [(.int .i64 41),(.int .i64 20)]))],(.bool false),none⟩
theorem Zrl:Zae Tryz.prog aw148.f aw148.args aw148.r aw148.fr:=Zaa (n:=100000) (l:=[]) follows Zab trivial (by kernel_rfl)
def aw149:Fact:=⟨55,[(.list (.big (.agg [(.int .i64),(.int .i64),(.int .i64)]) [(.agg (.gen [(.int .i64 0),(.int .i64 10),(.int .i64 12)])),(.agg (.gen [(.int .i64 10),(.int .i64 30),(.int .i64 32)])),(.agg (.gen [(.int .i64 20),(.int .i64 50),(.int .i64 51)]))]))],(.agg (.gen [(.int .i64 19),(.int .i64 10),(.int .i64 41),(.int .i64 20)])),none⟩
theorem ZkZ:Zae Tryz.prog aw149.f aw149.args aw149.r aw149.fr:=Zaa (n:=100000) (l:=[aw140,aw141,aw142,aw143,aw144,aw145,aw146,aw147,aw148]) follows Zab ⟨ZqB,⟨ZpX,⟨Zpq,⟨Zo5,⟨ZqX,⟨ZqJ,⟨Zqe,⟨Zo1,⟨Zrl,trivial⟩⟩⟩⟩⟩⟩⟩⟩⟩ (by kernel_rfl)
def aw150:Fact:=⟨91,[(.agg (.gen [(.int .i64 41),(.int .i64 20)])),(.agg (.gen [(.int .i64 19),(.int .i64 10)]))],(.bool false),none⟩
theorem ZpD:Zae Tryz.prog aw150.f aw150.args aw150.r aw150.fr:=Zaa (n:=100000) (l:=[]) follows Zab trivial (by kernel_rfl)
def aw151:Fact:=⟨89,[(.list (.big (.agg [(.int .i64),(.int .i64),(.int .i64)]) [(.agg (.gen [(.int .i64 0),(.int .i64 10),(.int .i64 12)])),(.agg (.gen [(.int .i64 10),(.int .i64 30),(.int .i64 32)])),(.agg (.gen [(.int .i64 20),(.int .i64 50),(.int .i64 51)]))]))],(.bool true),none⟩
theorem ZqL:Zae Tryz.prog aw151.f aw151.args aw151.r aw151.fr:=Zaa (n:=100000) (l:=[aw149,aw150]) follows Zab ⟨ZkZ,⟨ZpD,trivial⟩⟩ (by kernel_rfl)
def aw152:Fact:=⟨34,[(.bool true),(.int .i64 13)],(.int .i64 0),none⟩
theorem Zp3:Zae Tryz.prog aw152.f aw152.args aw152.r aw152.fr:=Zaa (n:=100000) (l:=[]) follows Zab trivial (by kernel_rfl)
def aw153:Fact:=⟨54,[(.list (.big (.agg [(.int .i64),(.int .i64),(.int .i64)]) [(.agg (.gen [(.int .i64 0),(.int .i64 10),(.int .i64 12)])),(.agg (.gen [(.int .i64 10),(.int .i64 30),(.int .i64 32)])),(.agg (.gen [(.int .i64 20),(.int .i64 50),(.int .i64 51)]))]))],(.int .i64 0),none⟩
theorem ZkP:Zae Tryz.prog aw153.f aw153.args aw153.r aw153.fr:=Zaa (n:=100000) (l:=[aw139,aw0,aw151,aw152,aw32]) follows Zab ⟨Zru,⟨ZhO,⟨ZqL,⟨Zp3,⟨ZfH,trivial⟩⟩⟩⟩⟩ (by kernel_rfl)
def aw154:Fact:=⟨56,[(.int .i64 19),(.int .i64 (-1000000000)),(.int .i64 1000000000)],(.bool true),none⟩
theorem Zq5:Zae Tryz.prog aw154.f aw154.args aw154.r aw154.fr:=Zaa (n:=100000) (l:=[]) follows Zab trivial (by kernel_rfl)
def aw155:Fact:=⟨56,[(.int .i64 41),(.int .i64 (-1000000000)),(.int .i64 1000000000)],(.bool true),none⟩
theorem Zro:Zae Tryz.prog aw155.f aw155.args aw155.r aw155.fr:=Zaa (n:=100000) (l:=[]) follows Zab trivial (by kernel_rfl)
def aw156:Fact:=⟨25,[(.list (.big (.agg [(.int .i64),(.int .i64),(.int .i64)]) [(.agg (.gen [(.int .i64 0),(.int .i64 10),(.int .i64 12)])),(.agg (.gen [(.int .i64 10),(.int .i64 30),(.int .i64 32)])),(.agg (.gen [(.int .i64 20),(.int .i64 50),(.int .i64 51)]))]))],(.tup [(.agg (.gen [(.int .i64 19),(.int .i64 10),(.int .i64 41),(.int .i64 20)])),(.int .i64 0)]),none⟩
theorem ZoY:Zae Tryz.prog aw156.f aw156.args aw156.r aw156.fr:=Zaa (n:=100000) (l:=[aw153,aw149,aw154,aw155]) follows Zab ⟨ZkP,⟨ZkZ,⟨Zq5,⟨Zro,trivial⟩⟩⟩⟩ (by kernel_rfl)
def aw157:Fact:=⟨56,[(.int .i64 30),(.int .i64 0),(.int .i64 1000000)],(.bool true),none⟩
theorem ZpV:Zae Tryz.prog aw157.f aw157.args aw157.r aw157.fr:=Zaa (n:=100000) (l:=[]) follows Zab trivial (by kernel_rfl)
def aw158:Fact:=⟨60,[(.agg (.gen [(.int .i64 0),(.int .i64 10),(.int .i64 10),(.int .i64 30)]))],(.int .i64 10),none⟩
theorem Zc5:Zae Tryz.prog aw158.f aw158.args aw158.r aw158.fr:=Zaa (n:=100000) (l:=[]) follows Zab trivial (by kernel_rfl)
def aw159:Fact:=⟨58,[(.agg (.gen [(.int .i64 0),(.int .i64 10),(.int .i64 10),(.int .i64 30)])),(.int .i64 0)],(.int .i64 100),none⟩
theorem Zrf:Zae Tryz.prog aw159.f aw159.args aw159.r aw159.fr:=Zaa (n:=100000) (l:=[aw158]) follows Zab ⟨Zc5,trivial⟩ (by kernel_rfl)
def aw160:Fact:=⟨56,[(.int .i64 100),(.int .i64 100),(.int .i64 120)],(.bool true),none⟩
theorem ZhU:Zae Tryz.prog aw160.f aw160.args aw160.r aw160.fr:=Zaa (n:=100000) (l:=[]) follows Zab trivial (by kernel_rfl)
def aw161:Fact:=⟨58,[(.agg (.gen [(.int .i64 0),(.int .i64 10),(.int .i64 10),(.int .i64 30)])),(.int .i64 10)],(.int .i64 300),none⟩
theorem Zp9:Zae Tryz.prog aw161.f aw161.args aw161.r aw161.fr:=Zaa (n:=100000) (l:=[aw158]) follows Zab ⟨Zc5,trivial⟩ (by kernel_rfl)
def aw162:Fact:=⟨56,[(.int .i64 300),(.int .i64 300),(.int .i64 320)],(.bool true),none⟩
theorem Zic:Zae Tryz.prog aw162.f aw162.args aw162.r aw162.fr:=Zaa (n:=100000) (l:=[]) follows Zab trivial (by kernel_rfl)
def aw163:Fact:=⟨58,[(.agg (.gen [(.int .i64 0),(.int .i64 10),(.int .i64 10),(.int .i64 30)])),(.int .i64 20)],(.int .i64 500),none⟩
theorem ZpF:Zae Tryz.prog aw163.f aw163.args aw163.r aw163.fr:=Zaa (n:=100000) (l:=[aw158]) follows Zab ⟨Zc5,trivial⟩ (by kernel_rfl)
def aw164:Fact:=⟨56,[(.int .i64 500),(.int .i64 500),(.int .i64 510)],(.bool true),none⟩
theorem Zlo:Zae Tryz.prog aw164.f aw164.args aw164.r aw164.fr:=Zaa (n:=100000) (l:=[]) follows Zab trivial (by kernel_rfl)
def aw165:Fact:=⟨93,[(.agg (.gen [(.int .i64 0),(.int .i64 10),(.int .i64 10),(.int .i64 30)])),(.list (.big (.agg [(.int .i64),(.int .i64),(.int .i64)]) [(.agg (.gen [(.int .i64 0),(.int .i64 10),(.int .i64 12)])),(.agg (.gen [(.int .i64 10),(.int .i64 30),(.int .i64 32)])),(.agg (.gen [(.int .i64 20),(.int .i64 50),(.int .i64 51)]))]))],(.bool true),none⟩
theorem ZqN:Zae Tryz.prog aw165.f aw165.args aw165.r aw165.fr:=Zaa (n:=100000) (l:=[aw159,aw158,aw160,aw161,aw162,aw163,aw164]) follows Zab ⟨Zrf,⟨Zc5,⟨ZhU,⟨Zp9,⟨Zic,⟨ZpF,⟨Zlo,trivial⟩⟩⟩⟩⟩⟩⟩ (by kernel_rfl)
def aw166:Fact:=⟨58,[(.agg (.gen [(.int .i64 0),(.int .i64 10),(.int .i64 10),(.int .i64 30)])),(.int .i64 30)],(.int .i64 700),none⟩
theorem Zqo:Zae Tryz.prog aw166.f aw166.args aw166.r aw166.fr:=Zaa (n:=100000) (l:=[aw158]) follows Zab ⟨Zc5,trivial⟩ (by kernel_rfl)
def aw167:Fact:=⟨59,[(.int .i64 700),(.int .i64 10)],(.int .i64 70),none⟩
theorem Zpk:Zae Tryz.prog aw167.f aw167.args aw167.r aw167.fr:=Zaa (n:=100000) (l:=[]) follows Zab trivial (by kernel_rfl)
def aw168:Fact:=⟨59,[(.int .i64 (-700)),(.int .i64 10)],(.int .i64 (-70)),none⟩
theorem Zpx:Zae Tryz.prog aw168.f aw168.args aw168.r aw168.fr:=Zaa (n:=100000) (l:=[]) follows Zab trivial (by kernel_rfl)
def aw169:Fact:=⟨60,[(.agg (.gen [(.int .i64 0),(.int .i64 10),(.int .i64 10),(.int .i64 32)]))],(.int .i64 10),none⟩
theorem Zfd:Zae Tryz.prog aw169.f aw169.args aw169.r aw169.fr:=Zaa (n:=100000) (l:=[]) follows Zab trivial (by kernel_rfl)
def aw170:Fact:=⟨58,[(.agg (.gen [(.int .i64 0),(.int .i64 10),(.int .i64 10),(.int .i64 32)])),(.int .i64 0)],(.int .i64 100),none⟩
theorem ZoR:Zae Tryz.prog aw170.f aw170.args aw170.r aw170.fr:=Zaa (n:=100000) (l:=[aw169]) follows Zab ⟨Zfd,trivial⟩ (by kernel_rfl)
def aw171:Fact:=⟨58,[(.agg (.gen [(.int .i64 0),(.int .i64 10),(.int .i64 10),(.int .i64 32)])),(.int .i64 10)],(.int .i64 320),none⟩
theorem Zqg:Zae Tryz.prog aw171.f aw171.args aw171.r aw171.fr:=Zaa (n:=100000) (l:=[aw169]) follows Zab ⟨Zfd,trivial⟩ (by kernel_rfl)
def aw172:Fact:=⟨56,[(.int .i64 320),(.int .i64 300),(.int .i64 320)],(.bool true),none⟩
theorem ZlJ:Zae Tryz.prog aw172.f aw172.args aw172.r aw172.fr:=Zaa (n:=100000) (l:=[]) follows Zab trivial (by kernel_rfl)
def aw173:Fact:=⟨58,[(.agg (.gen [(.int .i64 0),(.int .i64 10),(.int .i64 10),(.int .i64 32)])),(.int .i64 20)],(.int .i64 540),none⟩
theorem Zrw:Zae Tryz.prog aw173.f aw173.args aw173.r aw173.fr:=Zaa (n:=100000) (l:=[aw169]) follows Zab ⟨Zfd,trivial⟩ (by kernel_rfl)
def aw174:Fact:=⟨56,[(.int .i64 540),(.int .i64 500),(.int .i64 510)],(.bool false),none⟩
theorem Zpt:Zae Tryz.prog aw174.f aw174.args aw174.r aw174.fr:=Zaa (n:=100000) (l:=[]) follows Zab trivial (by kernel_rfl)
def aw175:Fact:=⟨93,[(.agg (.gen [(.int .i64 0),(.int .i64 10),(.int .i64 10),(.int .i64 32)])),(.list (.big (.agg [(.int .i64),(.int .i64),(.int .i64)]) [(.agg (.gen [(.int .i64 0),(.int .i64 10),(.int .i64 12)])),(.agg (.gen [(.int .i64 10),(.int .i64 30),(.int .i64 32)])),(.agg (.gen [(.int .i64 20),(.int .i64 50),(.int .i64 51)]))]))],(.bool false),none⟩
theorem Zq3:Zae Tryz.prog aw175.f aw175.args aw175.r aw175.fr:=Zaa (n:=100000) (l:=[aw170,aw169,aw160,aw171,aw172,aw173,aw174]) follows Zab ⟨ZoR,⟨Zfd,⟨ZhU,⟨Zqg,⟨ZlJ,⟨Zrw,⟨Zpt,trivial⟩⟩⟩⟩⟩⟩⟩ (by kernel_rfl)
def aw176:Fact:=⟨60,[(.agg (.gen [(.int .i64 0),(.int .i64 12),(.int .i64 10),(.int .i64 30)]))],(.int .i64 10),none⟩
theorem Zfp:Zae Tryz.prog aw176.f aw176.args aw176.r aw176.fr:=Zaa (n:=100000) (l:=[]) follows Zab trivial (by kernel_rfl)
def aw177:Fact:=⟨58,[(.agg (.gen [(.int .i64 0),(.int .i64 12),(.int .i64 10),(.int .i64 30)])),(.int .i64 0)],(.int .i64 120),none⟩
theorem Zqz:Zae Tryz.prog aw177.f aw177.args aw177.r aw177.fr:=Zaa (n:=100000) (l:=[aw176]) follows Zab ⟨Zfp,trivial⟩ (by kernel_rfl)
def aw178:Fact:=⟨56,[(.int .i64 120),(.int .i64 100),(.int .i64 120)],(.bool true),none⟩
theorem ZkM:Zae Tryz.prog aw178.f aw178.args aw178.r aw178.fr:=Zaa (n:=100000) (l:=[]) follows Zab trivial (by kernel_rfl)
def aw179:Fact:=⟨58,[(.agg (.gen [(.int .i64 0),(.int .i64 12),(.int .i64 10),(.int .i64 30)])),(.int .i64 10)],(.int .i64 300),none⟩
theorem Zq2:Zae Tryz.prog aw179.f aw179.args aw179.r aw179.fr:=Zaa (n:=100000) (l:=[aw176]) follows Zab ⟨Zfp,trivial⟩ (by kernel_rfl)
def aw180:Fact:=⟨58,[(.agg (.gen [(.int .i64 0),(.int .i64 12),(.int .i64 10),(.int .i64 30)])),(.int .i64 20)],(.int .i64 480),none⟩
theorem ZqS:Zae Tryz.prog aw180.f aw180.args aw180.r aw180.fr:=Zaa (n:=100000) (l:=[aw176]) follows Zab ⟨Zfp,trivial⟩ (by kernel_rfl)
def aw181:Fact:=⟨56,[(.int .i64 480),(.int .i64 500),(.int .i64 510)],(.bool false),none⟩
theorem ZpO:Zae Tryz.prog aw181.f aw181.args aw181.r aw181.fr:=Zaa (n:=100000) (l:=[]) follows Zab trivial (by kernel_rfl)
def aw182:Fact:=⟨93,[(.agg (.gen [(.int .i64 0),(.int .i64 12),(.int .i64 10),(.int .i64 30)])),(.list (.big (.agg [(.int .i64),(.int .i64),(.int .i64)]) [(.agg (.gen [(.int .i64 0),(.int .i64 10),(.int .i64 12)])),(.agg (.gen [(.int .i64 10),(.int .i64 30),(.int .i64 32)])),(.agg (.gen [(.int .i64 20),(.int .i64 50),(.int .i64 51)]))]))],(.bool false),none⟩
theorem Zqi:Zae Tryz.prog aw182.f aw182.args aw182.r aw182.fr:=Zaa (n:=100000) (l:=[aw177,aw176,aw178,aw179,aw162,aw180,aw181]) follows Zab ⟨Zqz,⟨Zfp,⟨ZkM,⟨Zq2,⟨Zic,⟨ZqS,⟨ZpO,trivial⟩⟩⟩⟩⟩⟩⟩ (by kernel_rfl)
def aw183:Fact:=⟨60,[(.agg (.gen [(.int .i64 0),(.int .i64 12),(.int .i64 10),(.int .i64 32)]))],(.int .i64 10),none⟩
theorem Zfk:Zae Tryz.prog aw183.f aw183.args aw183.r aw183.fr:=Zaa (n:=100000) (l:=[]) follows Zab trivial (by kernel_rfl)
def aw184:Fact:=⟨58,[(.agg (.gen [(.int .i64 0),(.int .i64 12),(.int .i64 10),(.int .i64 32)])),(.int .i64 0)],(.int .i64 120),none⟩
theorem Zp2:Zae Tryz.prog aw184.f aw184.args aw184.r aw184.fr:=Zaa (n:=100000) (l:=[aw183]) follows Zab ⟨Zfk,trivial⟩ (by kernel_rfl)
def aw185:Fact:=⟨58,[(.agg (.gen [(.int .i64 0),(.int .i64 12),(.int .i64 10),(.int .i64 32)])),(.int .i64 10)],(.int .i64 320),none⟩
theorem Zp0:Zae Tryz.prog aw185.f aw185.args aw185.r aw185.fr:=Zaa (n:=100000) (l:=[aw183]) follows Zab ⟨Zfk,trivial⟩ (by kernel_rfl)
def aw186:Fact:=⟨58,[(.agg (.gen [(.int .i64 0),(.int .i64 12),(.int .i64 10),(.int .i64 32)])),(.int .i64 20)],(.int .i64 520),none⟩
theorem ZpQ:Zae Tryz.prog aw186.f aw186.args aw186.r aw186.fr:=Zaa (n:=100000) (l:=[aw183]) follows Zab ⟨Zfk,trivial⟩ (by kernel_rfl)
def aw187:Fact:=⟨56,[(.int .i64 520),(.int .i64 500),(.int .i64 510)],(.bool false),none⟩
theorem ZqT:Zae Tryz.prog aw187.f aw187.args aw187.r aw187.fr:=Zaa (n:=100000) (l:=[]) follows Zab trivial (by kernel_rfl)
def aw188:Fact:=⟨93,[(.agg (.gen [(.int .i64 0),(.int .i64 12),(.int .i64 10),(.int .i64 32)])),(.list (.big (.agg [(.int .i64),(.int .i64),(.int .i64)]) [(.agg (.gen [(.int .i64 0),(.int .i64 10),(.int .i64 12)])),(.agg (.gen [(.int .i64 10),(.int .i64 30),(.int .i64 32)])),(.agg (.gen [(.int .i64 20),(.int .i64 50),(.int .i64 51)]))]))],(.bool false),none⟩
theorem Zpr:Zae Tryz.prog aw188.f aw188.args aw188.r aw188.fr:=Zaa (n:=100000) (l:=[aw184,aw183,aw178,aw185,aw172,aw186,aw187]) follows Zab ⟨Zp2,⟨Zfk,⟨ZkM,⟨Zp0,⟨ZlJ,⟨ZpQ,⟨ZqT,trivial⟩⟩⟩⟩⟩⟩⟩ (by kernel_rfl)
def aw189:Fact:=⟨60,[(.agg (.gen [(.int .i64 0),(.int .i64 10),(.int .i64 20),(.int .i64 50)]))],(.int .i64 20),none⟩
theorem Zdb:Zae Tryz.prog aw189.f aw189.args aw189.r aw189.fr:=Zaa (n:=100000) (l:=[]) follows Zab trivial (by kernel_rfl)
def aw190:Fact:=⟨58,[(.agg (.gen [(.int .i64 0),(.int .i64 10),(.int .i64 20),(.int .i64 50)])),(.int .i64 0)],(.int .i64 200),none⟩
theorem Zpl:Zae Tryz.prog aw190.f aw190.args aw190.r aw190.fr:=Zaa (n:=100000) (l:=[aw189]) follows Zab ⟨Zdb,trivial⟩ (by kernel_rfl)
def aw191:Fact:=⟨56,[(.int .i64 200),(.int .i64 200),(.int .i64 240)],(.bool true),none⟩
theorem Zlh:Zae Tryz.prog aw191.f aw191.args aw191.r aw191.fr:=Zaa (n:=100000) (l:=[]) follows Zab trivial (by kernel_rfl)
def aw192:Fact:=⟨58,[(.agg (.gen [(.int .i64 0),(.int .i64 10),(.int .i64 20),(.int .i64 50)])),(.int .i64 10)],(.int .i64 600),none⟩
theorem ZqG:Zae Tryz.prog aw192.f aw192.args aw192.r aw192.fr:=Zaa (n:=100000) (l:=[aw189]) follows Zab ⟨Zdb,trivial⟩ (by kernel_rfl)
def aw193:Fact:=⟨56,[(.int .i64 600),(.int .i64 600),(.int .i64 640)],(.bool true),none⟩
theorem Zp7:Zae Tryz.prog aw193.f aw193.args aw193.r aw193.fr:=Zaa (n:=100000) (l:=[]) follows Zab trivial (by kernel_rfl)
def aw194:Fact:=⟨58,[(.agg (.gen [(.int .i64 0),(.int .i64 10),(.int .i64 20),(.int .i64 50)])),(.int .i64 20)],(.int .i64 1000),none⟩
theorem Zqq:Zae Tryz.prog aw194.f aw194.args aw194.r aw194.fr:=Zaa (n:=100000) (l:=[aw189]) follows Zab ⟨Zdb,trivial⟩ (by kernel_rfl)
def aw195:Fact:=⟨56,[(.int .i64 1000),(.int .i64 1000),(.int .i64 1020)],(.bool true),none⟩
theorem Zlw:Zae Tryz.prog aw195.f aw195.args aw195.r aw195.fr:=Zaa (n:=100000) (l:=[]) follows Zab trivial (by kernel_rfl)
def aw196:Fact:=⟨93,[(.agg (.gen [(.int .i64 0),(.int .i64 10),(.int .i64 20),(.int .i64 50)])),(.list (.big (.agg [(.int .i64),(.int .i64),(.int .i64)]) [(.agg (.gen [(.int .i64 0),(.int .i64 10),(.int .i64 12)])),(.agg (.gen [(.int .i64 10),(.int .i64 30),(.int .i64 32)])),(.agg (.gen [(.int .i64 20),(.int .i64 50),(.int .i64 51)]))]))],(.bool true),none⟩
theorem Zq7:Zae Tryz.prog aw196.f aw196.args aw196.r aw196.fr:=Zaa (n:=100000) (l:=[aw190,aw189,aw191,aw192,aw193,aw194,aw195]) follows Zab ⟨Zpl,⟨Zdb,⟨Zlh,⟨ZqG,⟨Zp7,⟨Zqq,⟨Zlw,trivial⟩⟩⟩⟩⟩⟩⟩ (by kernel_rfl)
def aw197:Fact:=⟨58,[(.agg (.gen [(.int .i64 0),(.int .i64 10),(.int .i64 20),(.int .i64 50)])),(.int .i64 30)],(.int .i64 1400),none⟩
theorem ZoQ:Zae Tryz.prog aw197.f aw197.args aw197.r aw197.fr:=Zaa (n:=100000) (l:=[aw189]) follows Zab ⟨Zdb,trivial⟩ (by kernel_rfl)
def aw198:Fact:=⟨59,[(.int .i64 1400),(.int .i64 20)],(.int .i64 70),none⟩
theorem ZpL:Zae Tryz.prog aw198.f aw198.args aw198.r aw198.fr:=Zaa (n:=100000) (l:=[]) follows Zab trivial (by kernel_rfl)
def aw199:Fact:=⟨59,[(.int .i64 (-1400)),(.int .i64 20)],(.int .i64 (-70)),none⟩
theorem Zqr:Zae Tryz.prog aw199.f aw199.args aw199.r aw199.fr:=Zaa (n:=100000) (l:=[]) follows Zab trivial (by kernel_rfl)
def aw200:Fact:=⟨60,[(.agg (.gen [(.int .i64 0),(.int .i64 10),(.int .i64 20),(.int .i64 51)]))],(.int .i64 20),none⟩
theorem Zc2:Zae Tryz.prog aw200.f aw200.args aw200.r aw200.fr:=Zaa (n:=100000) (l:=[]) follows Zab trivial (by kernel_rfl)
def aw201:Fact:=⟨58,[(.agg (.gen [(.int .i64 0),(.int .i64 10),(.int .i64 20),(.int .i64 51)])),(.int .i64 0)],(.int .i64 200),none⟩
theorem ZoZ:Zae Tryz.prog aw201.f aw201.args aw201.r aw201.fr:=Zaa (n:=100000) (l:=[aw200]) follows Zab ⟨Zc2,trivial⟩ (by kernel_rfl)
def aw202:Fact:=⟨58,[(.agg (.gen [(.int .i64 0),(.int .i64 10),(.int .i64 20),(.int .i64 51)])),(.int .i64 10)],(.int .i64 610),none⟩
theorem Zqj:Zae Tryz.prog aw202.f aw202.args aw202.r aw202.fr:=Zaa (n:=100000) (l:=[aw200]) follows Zab ⟨Zc2,trivial⟩ (by kernel_rfl)
def aw203:Fact:=⟨56,[(.int .i64 610),(.int .i64 600),(.int .i64 640)],(.bool true),none⟩
theorem ZrB:Zae Tryz.prog aw203.f aw203.args aw203.r aw203.fr:=Zaa (n:=100000) (l:=[]) follows Zab trivial (by kernel_rfl)
def aw204:Fact:=⟨58,[(.agg (.gen [(.int .i64 0),(.int .i64 10),(.int .i64 20),(.int .i64 51)])),(.int .i64 20)],(.int .i64 1020),none⟩
theorem Zq8:Zae Tryz.prog aw204.f aw204.args aw204.r aw204.fr:=Zaa (n:=100000) (l:=[aw200]) follows Zab ⟨Zc2,trivial⟩ (by kernel_rfl)
def aw205:Fact:=⟨56,[(.int .i64 1020),(.int .i64 1000),(.int .i64 1020)],(.bool true),none⟩
theorem ZlF:Zae Tryz.prog aw205.f aw205.args aw205.r aw205.fr:=Zaa (n:=100000) (l:=[]) follows Zab trivial (by kernel_rfl)
def aw206:Fact:=⟨93,[(.agg (.gen [(.int .i64 0),(.int .i64 10),(.int .i64 20),(.int .i64 51)])),(.list (.big (.agg [(.int .i64),(.int .i64),(.int .i64)]) [(.agg (.gen [(.int .i64 0),(.int .i64 10),(.int .i64 12)])),(.agg (.gen [(.int .i64 10),(.int .i64 30),(.int .i64 32)])),(.agg (.gen [(.int .i64 20),(.int .i64 50),(.int .i64 51)]))]))],(.bool true),none⟩
theorem ZpG:Zae Tryz.prog aw206.f aw206.args aw206.r aw206.fr:=Zaa (n:=100000) (l:=[aw201,aw200,aw191,aw202,aw203,aw204,aw205]) follows Zab ⟨ZoZ,⟨Zc2,⟨Zlh,⟨Zqj,⟨ZrB,⟨Zq8,⟨ZlF,trivial⟩⟩⟩⟩⟩⟩⟩ (by kernel_rfl)
def aw207:Fact:=⟨58,[(.agg (.gen [(.int .i64 0),(.int .i64 10),(.int .i64 20),(.int .i64 51)])),(.int .i64 30)],(.int .i64 1430),none⟩
theorem ZpP:Zae Tryz.prog aw207.f aw207.args aw207.r aw207.fr:=Zaa (n:=100000) (l:=[aw200]) follows Zab ⟨Zc2,trivial⟩ (by kernel_rfl)
def aw208:Fact:=⟨59,[(.int .i64 1430),(.int .i64 20)],(.int .i64 71),none⟩
theorem Zqf:Zae Tryz.prog aw208.f aw208.args aw208.r aw208.fr:=Zaa (n:=100000) (l:=[]) follows Zab trivial (by kernel_rfl)
def aw209:Fact:=⟨59,[(.int .i64 (-1430)),(.int .i64 20)],(.int .i64 (-72)),none⟩
theorem ZqR:Zae Tryz.prog aw209.f aw209.args aw209.r aw209.fr:=Zaa (n:=100000) (l:=[]) follows Zab trivial (by kernel_rfl)
def aw210:Fact:=⟨60,[(.agg (.gen [(.int .i64 0),(.int .i64 12),(.int .i64 20),(.int .i64 50)]))],(.int .i64 20),none⟩
theorem ZcK:Zae Tryz.prog aw210.f aw210.args aw210.r aw210.fr:=Zaa (n:=100000) (l:=[]) follows Zab trivial (by kernel_rfl)
def aw211:Fact:=⟨58,[(.agg (.gen [(.int .i64 0),(.int .i64 12),(.int .i64 20),(.int .i64 50)])),(.int .i64 0)],(.int .i64 240),none⟩
theorem ZqZ:Zae Tryz.prog aw211.f aw211.args aw211.r aw211.fr:=Zaa (n:=100000) (l:=[aw210]) follows Zab ⟨ZcK,trivial⟩ (by kernel_rfl)
def aw212:Fact:=⟨56,[(.int .i64 240),(.int .i64 200),(.int .i64 240)],(.bool true),none⟩
theorem ZkQ:Zae Tryz.prog aw212.f aw212.args aw212.r aw212.fr:=Zaa (n:=100000) (l:=[]) follows Zab trivial (by kernel_rfl)
def aw213:Fact:=⟨58,[(.agg (.gen [(.int .i64 0),(.int .i64 12),(.int .i64 20),(.int .i64 50)])),(.int .i64 10)],(.int .i64 620),none⟩
theorem ZoU:Zae Tryz.prog aw213.f aw213.args aw213.r aw213.fr:=Zaa (n:=100000) (l:=[aw210]) follows Zab ⟨ZcK,trivial⟩ (by kernel_rfl)
def aw214:Fact:=⟨56,[(.int .i64 620),(.int .i64 600),(.int .i64 640)],(.bool true),none⟩
theorem Zqn:Zae Tryz.prog aw214.f aw214.args aw214.r aw214.fr:=Zaa (n:=100000) (l:=[]) follows Zab trivial (by kernel_rfl)
def aw215:Fact:=⟨58,[(.agg (.gen [(.int .i64 0),(.int .i64 12),(.int .i64 20),(.int .i64 50)])),(.int .i64 20)],(.int .i64 1000),none⟩
theorem ZpM:Zae Tryz.prog aw215.f aw215.args aw215.r aw215.fr:=Zaa (n:=100000) (l:=[aw210]) follows Zab ⟨ZcK,trivial⟩ (by kernel_rfl)
def aw216:Fact:=⟨93,[(.agg (.gen [(.int .i64 0),(.int .i64 12),(.int .i64 20),(.int .i64 50)])),(.list (.big (.agg [(.int .i64),(.int .i64),(.int .i64)]) [(.agg (.gen [(.int .i64 0),(.int .i64 10),(.int .i64 12)])),(.agg (.gen [(.int .i64 10),(.int .i64 30),(.int .i64 32)])),(.agg (.gen [(.int .i64 20),(.int .i64 50),(.int .i64 51)]))]))],(.bool true),none⟩
theorem ZpE:Zae Tryz.prog aw216.f aw216.args aw216.r aw216.fr:=Zaa (n:=100000) (l:=[aw211,aw210,aw212,aw213,aw214,aw215,aw195]) follows Zab ⟨ZqZ,⟨ZcK,⟨ZkQ,⟨ZoU,⟨Zqn,⟨ZpM,⟨Zlw,trivial⟩⟩⟩⟩⟩⟩⟩ (by kernel_rfl)
def aw217:Fact:=⟨58,[(.agg (.gen [(.int .i64 0),(.int .i64 12),(.int .i64 20),(.int .i64 50)])),(.int .i64 30)],(.int .i64 1380),none⟩
theorem Zq0:Zae Tryz.prog aw217.f aw217.args aw217.r aw217.fr:=Zaa (n:=100000) (l:=[aw210]) follows Zab ⟨ZcK,trivial⟩ (by kernel_rfl)
def aw218:Fact:=⟨59,[(.int .i64 1380),(.int .i64 20)],(.int .i64 69),none⟩
theorem ZqV:Zae Tryz.prog aw218.f aw218.args aw218.r aw218.fr:=Zaa (n:=100000) (l:=[]) follows Zab trivial (by kernel_rfl)
def aw219:Fact:=⟨59,[(.int .i64 (-1380)),(.int .i64 20)],(.int .i64 (-69)),none⟩
theorem ZqI:Zae Tryz.prog aw219.f aw219.args aw219.r aw219.fr:=Zaa (n:=100000) (l:=[]) follows Zab trivial (by kernel_rfl)
def aw220:Fact:=⟨60,[(.agg (.gen [(.int .i64 0),(.int .i64 12),(.int .i64 20),(.int .i64 51)]))],(.int .i64 20),none⟩
theorem ZcQ:Zae Tryz.prog aw220.f aw220.args aw220.r aw220.fr:=Zaa (n:=100000) (l:=[]) follows Zab trivial (by kernel_rfl)
def aw221:Fact:=⟨58,[(.agg (.gen [(.int .i64 0),(.int .i64 12),(.int .i64 20),(.int .i64 51)])),(.int .i64 0)],(.int .i64 240),none⟩
theorem ZqH:Zae Tryz.prog aw221.f aw221.args aw221.r aw221.fr:=Zaa (n:=100000) (l:=[aw220]) follows Zab ⟨ZcQ,trivial⟩ (by kernel_rfl)
def aw222:Fact:=⟨58,[(.agg (.gen [(.int .i64 0),(.int .i64 12),(.int .i64 20),(.int .i64 51)])),(.int .i64 10)],(.int .i64 630),none⟩
theorem Zo8:Zae Tryz.prog aw222.f aw222.args aw222.r aw222.fr:=Zaa (n:=100000) (l:=[aw220]) follows Zab ⟨ZcQ,trivial⟩ (by kernel_rfl)
def aw223:Fact:=⟨56,[(.int .i64 630),(.int .i64 600),(.int .i64 640)],(.bool true),none⟩
theorem ZpZ:Zae Tryz.prog aw223.f aw223.args aw223.r aw223.fr:=Zaa (n:=100000) (l:=[]) follows Zab trivial (by kernel_rfl)
def aw224:Fact:=⟨58,[(.agg (.gen [(.int .i64 0),(.int .i64 12),(.int .i64 20),(.int .i64 51)])),(.int .i64 20)],(.int .i64 1020),none⟩
theorem Zp8:Zae Tryz.prog aw224.f aw224.args aw224.r aw224.fr:=Zaa (n:=100000) (l:=[aw220]) follows Zab ⟨ZcQ,trivial⟩ (by kernel_rfl)
def aw225:Fact:=⟨93,[(.agg (.gen [(.int .i64 0),(.int .i64 12),(.int .i64 20),(.int .i64 51)])),(.list (.big (.agg [(.int .i64),(.int .i64),(.int .i64)]) [(.agg (.gen [(.int .i64 0),(.int .i64 10),(.int .i64 12)])),(.agg (.gen [(.int .i64 10),(.int .i64 30),(.int .i64 32)])),(.agg (.gen [(.int .i64 20),(.int .i64 50),(.int .i64 51)]))]))],(.bool true),none⟩
theorem ZoM:Zae Tryz.prog aw225.f aw225.args aw225.r aw225.fr:=Zaa (n:=100000) (l:=[aw221,aw220,aw212,aw222,aw223,aw224,aw205]) follows Zab ⟨ZqH,⟨ZcQ,⟨ZkQ,⟨Zo8,⟨ZpZ,⟨Zp8,⟨ZlF,trivial⟩⟩⟩⟩⟩⟩⟩ (by kernel_rfl)
def aw226:Fact:=⟨58,[(.agg (.gen [(.int .i64 0),(.int .i64 12),(.int .i64 20),(.int .i64 51)])),(.int .i64 30)],(.int .i64 1410),none⟩
theorem ZoX:Zae Tryz.prog aw226.f aw226.args aw226.r aw226.fr:=Zaa (n:=100000) (l:=[aw220]) follows Zab ⟨ZcQ,trivial⟩ (by kernel_rfl)
def aw227:Fact:=⟨59,[(.int .i64 1410),(.int .i64 20)],(.int .i64 70),none⟩
theorem ZpT:Zae Tryz.prog aw227.f aw227.args aw227.r aw227.fr:=Zaa (n:=100000) (l:=[]) follows Zab trivial (by kernel_rfl)
def aw228:Fact:=⟨59,[(.int .i64 (-1410)),(.int .i64 20)],(.int .i64 (-71)),none⟩
theorem ZqD:Zae Tryz.prog aw228.f aw228.args aw228.r aw228.fr:=Zaa (n:=100000) (l:=[]) follows Zab trivial (by kernel_rfl)
def aw229:Fact:=⟨60,[(.agg (.gen [(.int .i64 10),(.int .i64 30),(.int .i64 20),(.int .i64 50)]))],(.int .i64 10),none⟩
theorem Zc1:Zae Tryz.prog aw229.f aw229.args aw229.r aw229.fr:=Zaa (n:=100000) (l:=[]) follows Zab trivial (by kernel_rfl)
def aw230:Fact:=⟨58,[(.agg (.gen [(.int .i64 10),(.int .i64 30),(.int .i64 20),(.int .i64 50)])),(.int .i64 0)],(.int .i64 100),none⟩
theorem Zqw:Zae Tryz.prog aw230.f aw230.args aw230.r aw230.fr:=Zaa (n:=100000) (l:=[aw229]) follows Zab ⟨Zc1,trivial⟩ (by kernel_rfl)
def aw231:Fact:=⟨58,[(.agg (.gen [(.int .i64 10),(.int .i64 30),(.int .i64 20),(.int .i64 50)])),(.int .i64 10)],(.int .i64 300),none⟩
theorem ZrA:Zae Tryz.prog aw231.f aw231.args aw231.r aw231.fr:=Zaa (n:=100000) (l:=[aw229]) follows Zab ⟨Zc1,trivial⟩ (by kernel_rfl)
def aw232:Fact:=⟨58,[(.agg (.gen [(.int .i64 10),(.int .i64 30),(.int .i64 20),(.int .i64 50)])),(.int .i64 20)],(.int .i64 500),none⟩
theorem Zpv:Zae Tryz.prog aw232.f aw232.args aw232.r aw232.fr:=Zaa (n:=100000) (l:=[aw229]) follows Zab ⟨Zc1,trivial⟩ (by kernel_rfl)
def aw233:Fact:=⟨93,[(.agg (.gen [(.int .i64 10),(.int .i64 30),(.int .i64 20),(.int .i64 50)])),(.list (.big (.agg [(.int .i64),(.int .i64),(.int .i64)]) [(.agg (.gen [(.int .i64 0),(.int .i64 10),(.int .i64 12)])),(.agg (.gen [(.int .i64 10),(.int .i64 30),(.int .i64 32)])),(.agg (.gen [(.int .i64 20),(.int .i64 50),(.int .i64 51)]))]))],(.bool true),none⟩
theorem Zrs:Zae Tryz.prog aw233.f aw233.args aw233.r aw233.fr:=Zaa (n:=100000) (l:=[aw230,aw229,aw160,aw231,aw162,aw232,aw164]) follows Zab ⟨Zqw,⟨Zc1,⟨ZhU,⟨ZrA,⟨Zic,⟨Zpv,⟨Zlo,trivial⟩⟩⟩⟩⟩⟩⟩ (by kernel_rfl)
def aw234:Fact:=⟨58,[(.agg (.gen [(.int .i64 10),(.int .i64 30),(.int .i64 20),(.int .i64 50)])),(.int .i64 30)],(.int .i64 700),none⟩
theorem Zpi:Zae Tryz.prog aw234.f aw234.args aw234.r aw234.fr:=Zaa (n:=100000) (l:=[aw229]) follows Zab ⟨Zc1,trivial⟩ (by kernel_rfl)
def aw235:Fact:=⟨60,[(.agg (.gen [(.int .i64 10),(.int .i64 30),(.int .i64 20),(.int .i64 51)]))],(.int .i64 10),none⟩
theorem Zk4:Zae Tryz.prog aw235.f aw235.args aw235.r aw235.fr:=Zaa (n:=100000) (l:=[]) follows Zab trivial (by kernel_rfl)
def aw236:Fact:=⟨58,[(.agg (.gen [(.int .i64 10),(.int .i64 30),(.int .i64 20),(.int .i64 51)])),(.int .i64 0)],(.int .i64 90),none⟩
theorem Zq4:Zae Tryz.prog aw236.f aw236.args aw236.r aw236.fr:=Zaa (n:=100000) (l:=[aw235]) follows Zab ⟨Zk4,trivial⟩ (by kernel_rfl)
def aw237:Fact:=⟨56,[(.int .i64 90),(.int .i64 100),(.int .i64 120)],(.bool false),none⟩
theorem Zq9:Zae Tryz.prog aw237.f aw237.args aw237.r aw237.fr:=Zaa (n:=100000) (l:=[]) follows Zab trivial (by kernel_rfl)
def aw238:Fact:=⟨93,[(.agg (.gen [(.int .i64 10),(.int .i64 30),(.int .i64 20),(.int .i64 51)])),(.list (.big (.agg [(.int .i64),(.int .i64),(.int .i64)]) [(.agg (.gen [(.int .i64 0),(.int .i64 10),(.int .i64 12)])),(.agg (.gen [(.int .i64 10),(.int .i64 30),(.int .i64 32)])),(.agg (.gen [(.int .i64 20),(.int .i64 50),(.int .i64 51)]))]))],(.bool false),none⟩
theorem Zrd:Zae Tryz.prog aw238.f aw238.args aw238.r aw238.fr:=Zaa (n:=100000) (l:=[aw236,aw235,aw237]) follows Zab ⟨Zq4,⟨Zk4,⟨Zq9,trivial⟩⟩⟩ (by kernel_rfl)
def aw239:Fact:=⟨60,[(.agg (.gen [(.int .i64 10),(.int .i64 32),(.int .i64 20),(.int .i64 50)]))],(.int .i64 10),none⟩
theorem Zk7:Zae Tryz.prog aw239.f aw239.args aw239.r aw239.fr:=Zaa (n:=100000) (l:=[]) follows Zab trivial (by kernel_rfl)
def aw240:Fact:=⟨58,[(.agg (.gen [(.int .i64 10),(.int .i64 32),(.int .i64 20),(.int .i64 50)])),(.int .i64 0)],(.int .i64 140),none⟩
theorem Zql:Zae Tryz.prog aw240.f aw240.args aw240.r aw240.fr:=Zaa (n:=100000) (l:=[aw239]) follows Zab ⟨Zk7,trivial⟩ (by kernel_rfl)
def aw241:Fact:=⟨56,[(.int .i64 140),(.int .i64 100),(.int .i64 120)],(.bool false),none⟩
theorem Zqm:Zae Tryz.prog aw241.f aw241.args aw241.r aw241.fr:=Zaa (n:=100000) (l:=[]) follows Zab trivial (by kernel_rfl)
def aw242:Fact:=⟨93,[(.agg (.gen [(.int .i64 10),(.int .i64 32),(.int .i64 20),(.int .i64 50)])),(.list (.big (.agg [(.int .i64),(.int .i64),(.int .i64)]) [(.agg (.gen [(.int .i64 0),(.int .i64 10),(.int .i64 12)])),(.agg (.gen [(.int .i64 10),(.int .i64 30),(.int .i64 32)])),(.agg (.gen [(.int .i64 20),(.int .i64 50),(.int .i64 51)]))]))],(.bool false),none⟩
theorem Zpj:Zae Tryz.prog aw242.f aw242.args aw242.r aw242.fr:=Zaa (n:=100000) (l:=[aw240,aw239,aw241]) follows Zab ⟨Zql,⟨Zk7,⟨Zqm,trivial⟩⟩⟩ (by kernel_rfl)
def aw243:Fact:=⟨60,[(.agg (.gen [(.int .i64 10),(.int .i64 32),(.int .i64 20),(.int .i64 51)]))],(.int .i64 10),none⟩
theorem ZlE:Zae Tryz.prog aw243.f aw243.args aw243.r aw243.fr:=Zaa (n:=100000) (l:=[]) follows Zab trivial (by kernel_rfl)
def aw244:Fact:=⟨58,[(.agg (.gen [(.int .i64 10),(.int .i64 32),(.int .i64 20),(.int .i64 51)])),(.int .i64 0)],(.int .i64 130),none⟩
theorem Zo7:Zae Tryz.prog aw244.f aw244.args aw244.r aw244.fr:=Zaa (n:=100000) (l:=[aw243]) follows Zab ⟨ZlE,trivial⟩ (by kernel_rfl)
def aw245:Fact:=⟨56,[(.int .i64 130),(.int .i64 100),(.int .i64 120)],(.bool false),none⟩
theorem ZqE:Zae Tryz.prog aw245.f aw245.args aw245.r aw245.fr:=Zaa (n:=100000) (l:=[]) follows Zab trivial (by kernel_rfl)
def aw246:Fact:=⟨93,[(.agg (.gen [(.int .i64 10),(.int .i64 32),(.int .i64 20),(.int .i64 51)])),(.list (.big (.agg [(.int .i64),(.int .i64),(.int .i64)]) [(.agg (.gen [(.int .i64 0),(.int .i64 10),(.int .i64 12)])),(.agg (.gen [(.int .i64 10),(.int .i64 30),(.int .i64 32)])),(.agg (.gen [(.int .i64 20),(.int .i64 50),(.int .i64 51)]))]))],(.bool false),none⟩
theorem Zrk:Zae Tryz.prog aw246.f aw246.args aw246.r aw246.fr:=Zaa (n:=100000) (l:=[aw244,aw243,aw245]) follows Zab ⟨Zo7,⟨ZlE,⟨ZqE,trivial⟩⟩⟩ (by kernel_rfl)
def aw247:Fact:=⟨27,[(.list (.big (.agg [(.int .i64),(.int .i64),(.int .i64)]) [(.agg (.gen [(.int .i64 0),(.int .i64 10),(.int .i64 12)])),(.agg (.gen [(.int .i64 10),(.int .i64 30),(.int .i64 32)])),(.agg (.gen [(.int .i64 20),(.int .i64 50),(.int .i64 51)]))])),(.int .i64 30)],(.tup [(.agg (.gen [(.int .i64 69),(.int .i64 72)])),(.int .i64 0)]),none⟩
theorem Zqk:Zae Tryz.prog aw247.f aw247.args aw247.r aw247.fr:=Zaa (n:=100000) (l:=[aw153,aw157,aw4,aw32,aw165,aw166,aw158,aw167,aw168,aw175,aw182,aw188,aw196,aw197,aw189,aw198,aw199,aw206,aw207,aw200,aw208,aw209,aw216,aw217,aw210,aw218,aw219,aw225,aw226,aw220,aw227,aw228,aw233,aw234,aw229,aw238,aw242,aw246]) follows Zab ⟨ZkP,⟨ZpV,⟨ZbM,⟨ZfH,⟨ZqN,⟨Zqo,⟨Zc5,⟨Zpk,⟨Zpx,⟨Zq3,⟨Zqi,⟨Zpr,⟨Zq7,⟨ZoQ,⟨Zdb,⟨ZpL,⟨Zqr,⟨ZpG,⟨ZpP,⟨Zc2,⟨Zqf,⟨ZqR,⟨ZpE,⟨Zq0,⟨ZcK,⟨ZqV,⟨ZqI,⟨ZoM,⟨ZoX,⟨ZcQ,⟨ZpT,⟨ZqD,⟨Zrs,⟨Zpi,⟨Zc1,⟨Zrd,⟨Zpj,⟨Zrk,trivial⟩⟩⟩⟩⟩⟩⟩⟩⟩⟩⟩⟩⟩⟩⟩⟩⟩⟩⟩⟩⟩⟩⟩⟩⟩⟩⟩⟩⟩⟩⟩⟩⟩⟩⟩⟩⟩⟩ (by kernel_rfl)
def aw248:Fact:=⟨28,[(.list (.ints .i64 [3,255,0,0])),(.list (.ints .i64 [3,255,0,0]))],(.bool true),none⟩
theorem Zrc:Zae Tryz.prog aw248.f aw248.args aw248.r aw248.fr:=Zaa (n:=100000) (l:=[]) follows Zab trivial (by kernel_rfl)
def aw249:Fact:=⟨28,[(.list (.ints .i64 [1,2])),(.list (.ints .i64 [1,2]))],(.bool true),none⟩
theorem ZoN:Zae Tryz.prog aw249.f aw249.args aw249.r aw249.fr:=Zaa (n:=100000) (l:=[]) follows Zab trivial (by kernel_rfl)
def aw250:Fact:=⟨16,[(.agg (.gen [(.int .i64 9),(.int .i64 0),(.list (.ints .i64 [1,2]))])),(.agg (.gen [(.int .i64 9),(.int .i64 0),(.list (.ints .i64 [1,2]))]))],(.bool true),none⟩
theorem ZpH:Zae Tryz.prog aw250.f aw250.args aw250.r aw250.fr:=Zaa (n:=100000) (l:=[aw249]) follows Zab ⟨ZoN,trivial⟩ (by kernel_rfl)
def aw251:Fact:=⟨28,[(.list (.ints .i64 [3])),(.list (.ints .i64 [3]))],(.bool true),none⟩
theorem ZpU:Zae Tryz.prog aw251.f aw251.args aw251.r aw251.fr:=Zaa (n:=100000) (l:=[]) follows Zab trivial (by kernel_rfl)
def aw252:Fact:=⟨16,[(.agg (.gen [(.int .i64 9),(.int .i64 1),(.list (.ints .i64 [3]))])),(.agg (.gen [(.int .i64 9),(.int .i64 1),(.list (.ints .i64 [3]))]))],(.bool true),none⟩
theorem ZpS:Zae Tryz.prog aw252.f aw252.args aw252.r aw252.fr:=Zaa (n:=100000) (l:=[aw251]) follows Zab ⟨ZpU,trivial⟩ (by kernel_rfl)
def aw253:Fact:=⟨29,[(.list (.gen [(.agg (.gen [(.int .i64 9),(.int .i64 0),(.list (.ints .i64 [1,2]))])),(.agg (.gen [(.int .i64 9),(.int .i64 1),(.list (.ints .i64 [3]))]))])),(.list (.gen [(.agg (.gen [(.int .i64 9),(.int .i64 0),(.list (.ints .i64 [1,2]))])),(.agg (.gen [(.int .i64 9),(.int .i64 1),(.list (.ints .i64 [3]))]))]))],(.bool true),none⟩
theorem ZqC:Zae Tryz.prog aw253.f aw253.args aw253.r aw253.fr:=Zaa (n:=100000) (l:=[aw250,aw252]) follows Zab ⟨ZpH,⟨ZpS,trivial⟩⟩ (by kernel_rfl)
def aw254:Fact:=⟨4,[],(.bool true),none⟩
theorem Zph:Zae Tryz.prog aw254.f aw254.args aw254.r aw254.fr:=Zaa (n:=100000) (l:=[aw22,aw23,aw24,aw68,aw75,aw116,aw94,aw105,aw101,aw104,aw102,aw103,aw106,aw108,aw109,aw110,aw112,aw113,aw114,aw115,aw122,aw156,aw247,aw248,aw253]) follows Zab ⟨ZtD,⟨Zut,⟨Zus,⟨Zs0,⟨ZtO,⟨ZoW,⟨ZnK,⟨Zlg,⟨Zlq,⟨ZkT,⟨Ziw,⟨Zin,⟨ZlH,⟨Zlc,⟨ZlA,⟨ZkY,⟨ZkL,⟨ZkN,⟨Zk3,⟨Zll,⟨ZoO,⟨ZoY,⟨Zqk,⟨Zrc,⟨ZqC,trivial⟩⟩⟩⟩⟩⟩⟩⟩⟩⟩⟩⟩⟩⟩⟩⟩⟩⟩⟩⟩⟩⟩⟩⟩⟩ (by kernel_rfl)
end Go.Proofs.YthfcimmcccocmaaGreatDoor
/- Contracts as a list. No condition. -/
namespace Go.Proofs.YthfcimmcccocmaaGreatDoor
def k4:Ctr:=⟨4,0,fun _ a=>match a with |[]=>some (true, .bool true,none) |_=>none⟩
theorem ZAM:k4.OK Tryz.prog:=fun pa args r fr h=>by
 simp only[k4]at h
 split at h
 ·cases h
  exact Zph
 ·cases h
def N9:List Ctr:=[k4]++N8
theorem ZyS:ZaK Tryz.prog N9:=⟨ZAM,ZzA⟩
end Go.Proofs.YthfcimmcccocmaaGreatDoor
