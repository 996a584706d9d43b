/- FrameWhole: the law returns true. No condition. -/
import Derived.Test.YtjhdnpmojhkbjaaPW
namespace Go.Proofs.Ytjhdnpmojhkbjaa
set_option maxRecDepth 20000
def Aw2(C:Ctx)(N:Nat)(b c d:Int)(ps L x0:List AV)(R:List AFrame→Zaa→Prop)(i:Int):List AV→Prop
 |[]=>Ev C (Zfg N b c d ps L x0 i) (ZdA N b c d ps L x0 i) R
 |y::Y=>Ev C (Ze2 N b c d ps L x0 i (y::Y)) (ZdM N b c d ps L x0 i (y::Y)) R
def Aw0(C:Ctx)(N:Nat)(b c d:Int)(ps L:List AV)(R:List AFrame→Zaa→Prop):List AV→List AV→Int→Int→Prop
 |[],[],at0,i=>Ev C (Zjt N b c d ps L at0 i) (ZgW N b c d ps L at0 i) R
 |x::X,[],at0,i=>Ev C (ZjX N b c d ps L (x::X) at0 i) (Zhf N b c d ps L (x::X) at0 i) R
 |[],w::W,at0,i=>Ev C (Zkc N b c d ps L i (w::W) at0) (Zg1 N b c d ps L i (w::W) at0) R
 |x::X,w::W,at0,i=>Ev C (ZjU N b c d ps L (x::X) i (w::W) at0) (Zhe N b c d ps L (x::X) i (w::W) at0) R
def Aw1(C:Ctx)(N:Nat)(b c d:Int)(ps L:List AV)(R:List AFrame→Zaa→Prop):List AV→List AV→Int→Int→Bool→Int→Int→Int→List Int→Prop
 |[],[],i,en,wh,k,p,q,l=>Ev C (Ze6 N b c d ps L i en wh k p q l) (ZdH N b c d ps L i en wh k p q l) R
 |x::X,[],i,en,wh,k,p,q,l=>Ev C (Zff N b c d ps L (x::X) i en wh k p q l) (ZdJ N b c d ps L (x::X) i en wh k p q l) R
 |[],w::W,i,en,wh,k,p,q,l=>Ev C (Zfb N b c d ps L i (w::W) en wh k p q l) (ZdE N b c d ps L i (w::W) en wh k p q l) R
 |x::X,w::W,i,en,wh,k,p,q,l=>Ev C (Ze3 N b c d ps L (x::X) i (w::W) en wh k p q l) (ZdD N b c d ps L (x::X) i (w::W) en wh k p q l) R
def pkI(p q:Int)(l:List Int):AV:=.agg (.gen [.int .i64 p, .int .i64 q, .list (.ints .i64 l)])
theorem Zez(L:List AV)(k:Nat)(h:k<L.length):ZcW (L.map AV.toB) k=AV.toB (L.getD k .top):=by
 simp[ZcW,h]
theorem Zew(L:List AV)(k:Nat)(h:L.length≤k):ZcW (L.map AV.toB) k=false:=by
 simp[ZcW,h]
theorem ZHc(en N:Nat)(h:1≤en):Int.tdiv ((en:Int)-1) N=(((en-1)/N:Nat):Int):=by
 rw[show (en:Int)-1=((en-1:Nat):Int) by omega,Int.ofNat_tdiv]
section
variable {C:Ctx}(hC:C.P=Try.prog)(N:Nat)(b c d:Int)(ps L:List AV)(hN:4≤N∧N≤24)(R:List AFrame→Zaa→Prop)
include hC hN
theorem ZMU(i en:Nat)(p q:Int)(l:List Int)(hi:i≤1000)(he:1≤en∧en≤5000):∀(m k:Nat) (wh:Bool),k+m=(en-1)/N+1→
 Aw0 C N b c d ps L R [] (if (wh&&ZjH (L.map AV.toB) k m)=true then []++[pkI p q l]else []) en ((i:Int)+1)→Aw1 C N b c d ps L R [] [] i en wh k p q l:=by
 have hq:=ZHc en N he.1
 have hle:(en-1)/N≤en-1:=Nat.div_le_self _ _
 intro m
 induction m with
 |zero=>
  intro k wh hk h
  cases wh with
  |false=>
   have hw:=(ZLe std N b c d ps L i en false k p q l)
   simp only[Zcp,ZaD,hq]at hw
   exact go hC Zaz hw (by simp;omega) h
  |true=>
   have hw:=(ZKN std N b c d ps L i en true k p q l)
   simp only[Zcp,ZaD,hq]at hw
   exact go hC Zaz hw (by simp[AV.bx,Zac,Row.len];omega) h
 |succ m ih=>
  intro k wh hk h
  have e2:std.add (k:Int) 1=((k+1:Nat):Int):=by simp
  cases wh with
  |false=>
   have hw:=(ZKx std N b c d ps L i en false k p q l)
   simp only[Zcp,ZaD,hq,e2]at hw
   exact go hC Zaz hw (by simp;omega) (ih (k+1) false (by omega) (by simpa using h))
  |true=>
   by_cases hL:L.length≤k
   ·have hw:=(ZHH std N b c d ps L i en true k p q l)
    simp only[Zcp,ZaD,hq,e2]at hw
    exact go hC Zaz hw (by simp[hL];omega) (ih (k+1) true (by omega) (by rw[ZjH,Zew L k hL]at h;exact h))
   ·have hw:=(ZIR std N b c d ps L i en true k p q l)
    simp only[Zcp,ZaD,hq,e2,ZaB,Zau,Int.toNat_natCast,←Zez L k (by omega)]at hw
    exact go hC Zaz hw (by simp;omega) (ih (k+1) _ (by omega) (by rw[ZjH]at h;simpa using h))
theorem ZNQ(x:AV)(X:List AV)(i en:Nat)(p q:Int)(l:List Int)(hi:i≤1000)(he:1≤en∧en≤5000):∀(m k:Nat) (wh:Bool),k+m=(en-1)/N+1→
 Aw0 C N b c d ps L R (x::X) (if (wh&&ZjH (L.map AV.toB) k m)=true then []++[pkI p q l]else []) en ((i:Int)+1)→Aw1 C N b c d ps L R (x::X) [] i en wh k p q l:=by
 have hq:=ZHc en N he.1
 have hle:(en-1)/N≤en-1:=Nat.div_le_self _ _
 intro m
 induction m with
 |zero=>
  intro k wh hk h
  cases wh with
  |false=>
   have hw:=(ZKW std N b c d ps L (x::X) i en false k p q l)
   simp only[Zcp,ZaD,hq]at hw
   exact go hC Zaz hw (by simp;omega) h
  |true=>
   have hw:=(ZKL std N b c d ps L (x::X) i en true k p q l)
   simp only[Zcp,ZaD,hq]at hw
   exact go hC Zaz hw (by simp[AV.bx,Zac,Row.len];omega) h
 |succ m ih=>
  intro k wh hk h
  have e2:std.add (k:Int) 1=((k+1:Nat):Int):=by simp
  cases wh with
  |false=>
   have hw:=(ZKS std N b c d ps L (x::X) i en false k p q l)
   simp only[Zcp,ZaD,hq,e2]at hw
   exact go hC Zaz hw (by simp;omega) (ih (k+1) false (by omega) (by simpa using h))
  |true=>
   by_cases hL:L.length≤k
   ·have hw:=(ZKd std N b c d ps L (x::X) i en true k p q l)
    simp only[Zcp,ZaD,hq,e2]at hw
    exact go hC Zaz hw (by simp[hL];omega) (ih (k+1) true (by omega) (by rw[ZjH,Zew L k hL]at h;exact h))
   ·have hw:=(ZIA std N b c d ps L (x::X) i en true k p q l)
    simp only[Zcp,ZaD,hq,e2,ZaB,Zau,Int.toNat_natCast,←Zez L k (by omega)]at hw
    exact go hC Zaz hw (by simp;omega) (ih (k+1) _ (by omega) (by rw[ZjH]at h;simpa using h))
theorem ZMe(w:AV)(W:List AV)(i en:Nat)(p q:Int)(l:List Int)(hi:i≤1000)(he:1≤en∧en≤5000)(hW:W.length≤1000):∀(m k:Nat) (wh:Bool),k+m=(en-1)/N+1→
 Aw0 C N b c d ps L R [] (if (wh&&ZjH (L.map AV.toB) k m)=true then(w::W)++[pkI p q l]else(w::W)) en ((i:Int)+1)→Aw1 C N b c d ps L R [] (w::W) i en wh k p q l:=by
 have hq:=ZHc en N he.1
 have hle:(en-1)/N≤en-1:=Nat.div_le_self _ _
 intro m
 induction m with
 |zero=>
  intro k wh hk h
  cases wh with
  |false=>
   have hw:=(ZK6 std N b c d ps L i (w::W) en false k p q l)
   simp only[Zcp,ZaD,hq]at hw
   exact go hC Zaz hw (by simp;omega) h
  |true=>
   have hw:=(ZIf std N b c d ps L i (w::W) en true k p q l)
   simp only[Zcp,ZaD,hq]at hw
   exact go hC Zaz hw (by simp[AV.bx,Zac,Row.len];omega) h
 |succ m ih=>
  intro k wh hk h
  have e2:std.add (k:Int) 1=((k+1:Nat):Int):=by simp
  cases wh with
  |false=>
   have hw:=(ZH8 std N b c d ps L i (w::W) en false k p q l)
   simp only[Zcp,ZaD,hq,e2]at hw
   exact go hC Zaz hw (by simp;omega) (ih (k+1) false (by omega) (by simpa using h))
  |true=>
   by_cases hL:L.length≤k
   ·have hw:=(ZIp std N b c d ps L i (w::W) en true k p q l)
    simp only[Zcp,ZaD,hq,e2]at hw
    exact go hC Zaz hw (by simp[hL];omega) (ih (k+1) true (by omega) (by rw[ZjH,Zew L k hL]at h;exact h))
   ·have hw:=(ZKU std N b c d ps L i (w::W) en true k p q l)
    simp only[Zcp,ZaD,hq,e2,ZaB,Zau,Int.toNat_natCast,←Zez L k (by omega)]at hw
    exact go hC Zaz hw (by simp;omega) (ih (k+1) _ (by omega) (by rw[ZjH]at h;simpa using h))
theorem ZN5(x:AV)(X:List AV)(w:AV)(W:List AV)(i en:Nat)(p q:Int)(l:List Int)(hi:i≤1000)(he:1≤en∧en≤5000)(hW:W.length≤1000):∀(m k:Nat) (wh:Bool),k+m=(en-1)/N+1→
 Aw0 C N b c d ps L R (x::X) (if (wh&&ZjH (L.map AV.toB) k m)=true then(w::W)++[pkI p q l]else(w::W)) en ((i:Int)+1)→Aw1 C N b c d ps L R (x::X) (w::W) i en wh k p q l:=by
 have hq:=ZHc en N he.1
 have hle:(en-1)/N≤en-1:=Nat.div_le_self _ _
 intro m
 induction m with
 |zero=>
  intro k wh hk h
  cases wh with
  |false=>
   have hw:=(ZI0 std N b c d ps L (x::X) i (w::W) en false k p q l)
   simp only[Zcp,ZaD,hq]at hw
   exact go hC Zaz hw (by simp;omega) h
  |true=>
   have hw:=(ZIa std N b c d ps L (x::X) i (w::W) en true k p q l)
   simp only[Zcp,ZaD,hq]at hw
   exact go hC Zaz hw (by simp[AV.bx,Zac,Row.len];omega) h
 |succ m ih=>
  intro k wh hk h
  have e2:std.add (k:Int) 1=((k+1:Nat):Int):=by simp
  cases wh with
  |false=>
   have hw:=(ZJF std N b c d ps L (x::X) i (w::W) en false k p q l)
   simp only[Zcp,ZaD,hq,e2]at hw
   exact go hC Zaz hw (by simp;omega) (ih (k+1) false (by omega) (by simpa using h))
  |true=>
   by_cases hL:L.length≤k
   ·have hw:=(ZJg std N b c d ps L (x::X) i (w::W) en true k p q l)
    simp only[Zcp,ZaD,hq,e2]at hw
    exact go hC Zaz hw (by simp[hL];omega) (ih (k+1) true (by omega) (by rw[ZjH,Zew L k hL]at h;exact h))
   ·have hw:=(ZIP std N b c d ps L (x::X) i (w::W) en true k p q l)
    simp only[Zcp,ZaD,hq,e2,ZaB,Zau,Int.toNat_natCast,←Zez L k (by omega)]at hw
    exact go hC Zaz hw (by simp;omega) (ih (k+1) _ (by omega) (by rw[ZjH]at h;simpa using h))
theorem ZFz:∀(X W:List AV) (i en:Nat) (p q:Int) (l:List Int) (_:i≤1000) (_:1≤en∧en≤5000) (_:W.length≤1000) (m k:Nat) (wh:Bool),k+m=(en-1)/N+1→
 Aw0 C N b c d ps L R X (if (wh&&ZjH (L.map AV.toB) k m)=true then W++[pkI p q l]else W) en ((i:Int)+1)→Aw1 C N b c d ps L R X W i en wh k p q l
 |[],[],i,en,p,q,l,hi,he,_,m,k,wh,hk,h=>ZMU hC N b c d ps L hN R i en p q l hi he m k wh hk h
 |x::X,[],i,en,p,q,l,hi,he,_,m,k,wh,hk,h=>ZNQ hC N b c d ps L hN R x X i en p q l hi he m k wh hk h
 |[],w::W,i,en,p,q,l,hi,he,hW,m,k,wh,hk,h=>ZMe hC N b c d ps L hN R w W i en p q l hi he (by rw[List.length_cons]at hW;omega) m k wh hk h
 |x::X,w::W,i,en,p,q,l,hi,he,hW,m,k,wh,hk,h=>ZN5 hC N b c d ps L hN R x X w W i en p q l hi he (by rw[List.length_cons]at hW;omega) m k wh hk h
theorem ZEJ:∀(X W:List AV) (at0 i:Nat) (hi:i<ps.length) (_:ps.length≤12) (_:at0≤2000) (_:(kD ps[i]).length≤42),
 Aw1 C N b c d ps L R X W i ((at0+(pkB ps[i]).length:Nat):Int) (decide (kI ps[i]≠255)) ((at0/N:Nat):Int) (kI ps[i]) (kC ps[i]) (kD ps[i])→Aw0 C N b c d ps L R X W at0 i:=by
 intro X W at0 i hi hl ha hk h
 have hg:ps.getD i .top=ps[i]:=by simp[hi]
 have g0:(ps[i].cellAt 0).toI=kI ps[i]:=rfl
 have g1:(ps[i].cellAt 1).toI=kC ps[i]:=rfl
 have g2:(ps[i].cellAt 2).toIs=kD ps[i]:=rfl
 have e1:(at0:Int)+3+((kD ps[i]).length:Int)=((at0+(pkB ps[i]).length:Nat):Int):=by simp[pkB];omega
 have e2:Int.tdiv (at0:Int) N=((at0/N:Nat):Int):=(Int.ofNat_tdiv _ _).symm
 have e3:(!std.eq (kI ps[i]) 255)=decide (kI ps[i]≠255):=by
  by_cases h9:kI ps[i]=255<;>simp[h9]
 have hle:at0/N≤at0:=Nat.div_le_self _ _
 obtain⟨z,hz⟩:∃z,at0/N=z:=⟨_,rfl⟩
 rw[hz]at e2 hle h
 rcases X with _ |⟨x,X⟩<;>rcases W with _ |⟨w,W⟩
 ·have hw:=ZIL std N b c d ps L at0 i
  simp only[Zcp,ZcE,ZdS,Zch,ZaB,Zau,Zsv,Int.toNat_natCast,hg,g0,g1,g2,e2]at hw
  rw[e3,e1]at hw
  exact go hC Zaz hw (by simp[hi];omega) h
 ·have hw:=ZK5 std N b c d ps L i (w::W) at0
  simp only[Zcp,ZcE,ZdS,Zch,ZaB,Zau,Zsv,Int.toNat_natCast,hg,g0,g1,g2,e2]at hw
  rw[e3,e1]at hw
  exact go hC Zaz hw (by simp[hi];omega) h
 ·have hw:=ZJB std N b c d ps L (x::X) at0 i
  simp only[Zcp,ZcE,ZdS,Zch,ZaB,Zau,Zsv,Int.toNat_natCast,hg,g0,g1,g2,e2]at hw
  rw[e3,e1]at hw
  exact go hC Zaz hw (by simp[hi];omega) h
 ·have hw:=ZIS std N b c d ps L (x::X) i (w::W) at0
  simp only[Zcp,ZcE,ZdS,Zch,ZaB,Zau,Zsv,Int.toNat_natCast,hg,g0,g1,g2,e2]at hw
  rw[e3,e1]at hw
  exact go hC Zaz hw (by simp[hi];omega) h
theorem Zy4(hl:ps.length≤12)(hk:∀p∈ps,(kD p).length≤42)(X:List AV)(Wf:List AV)(hend:∀at0:Nat,Aw0 C N b c d ps L R X Wf at0 ps.length):∀(t i at0:Nat) (W:List AV),i+t=ps.length→at0≤45*i→W.length≤i→Wf=W++(Zcj (L.map AV.toB) N at0 (ps.drop i)).map pkQ→Aw0 C N b c d ps L R X W at0 i:=by
 intro t
 induction t with
 |zero=>
  intro i at0 W hi ha hWl hW
  have:i=ps.length:=by omega
  subst this
  rw[List.drop_length,Zcj,List.map_nil,List.append_nil]at hW
  subst hW
  exact hend at0
 |succ t ih=>
  intro i at0 W hi ha hWl hW
  have hlt:i<ps.length:=by omega
  have hki:=hk ps[i] (List.getElem_mem hlt)
  have hpl:(pkB ps[i]).length=(kD ps[i]).length+3:=Zmt _
  have hdv:at0/N≤(at0+(pkB ps[i]).length-1)/N:=Nat.div_le_div_right (by omega)
  refine ZEJ hC N b c d ps L hN R X W at0 i hlt hl (by omega) hki ?_
  refine ZFz hC N b c d ps L hN R X W i _ _ _ _ (by omega) (by omega) (by omega) ((at0+(pkB ps[i]).length-1)/N+1-at0/N) (at0/N) _ (by omega) ?_
  have e5:((i:Int)+1)=((i+1:Nat):Int):=by omega
  rw[e5]
  have h8:(W++[pkI (kI ps[i]) (kC ps[i]) (kD ps[i])]).length=W.length+1:=by simp
  refine ih (i+1) _ _ (by omega) (by omega) (by split<;>omega) ?_
  rw[hW,List.drop_eq_getElem_cons hlt,Zcj,List.map_append,Zji]
  by_cases h9:(decide (kI ps[i]≠255)&&ZjH (L.map AV.toB) (at0/N) ((at0+(pkB ps[i]).length-1)/N+1-at0/N))=true
  ·rw[if_pos h9,if_pos h9,List.append_assoc];rfl
  ·rw[if_neg h9,if_neg h9,List.map_nil,List.nil_append]
theorem ZwN(x0:List AV)(hx:x0.length≤100)(hb:∀f∈x0,(AV.toIs (AV.cellAt f 3)).length≤1000000)(i:Nat)(hlt:i<x0.length):∀X:List AV,X.length≤100→
 Aw2 C N b c d ps L x0 R ((i+1:Nat):Int) (if ZcW (L.map AV.toB) i=true then X else X++[ZH0 x0[i]])→Aw2 C N b c d ps L x0 R i X:=by
 intro X hX hq
 have _:=hN
 have hg:x0.getD i .top=x0[i]:=by simp[hlt]
 have e2:std.add (i:Int) 1=((i+1:Nat):Int):=by simp
 have hbb:=hb x0[i] (List.getElem_mem hlt)
 have hbb:(AV.toIs (AV.cellAt x0[i] 3)).length≤4294967296:=by omega
 rcases X with _ |⟨x,X⟩
 ·show Ev C (Zfg N b c d ps L x0 i) (ZdA N b c d ps L x0 i) R
  by_cases hL:L.length≤i
  ·have hw:=ZNf std N b c d ps L x0 i
   simp only[ZaB,Zau,Int.toNat_natCast,hg,e2]at hw
   rw[Zew L i hL]at hq
   exact go hC Zaz hw (by simp[hlt,hL,hbb,AV.bx,Zac,Row.len];omega) hq
  ·have hg2:=Zez L i (by omega)
   cases hB:ZcW (L.map AV.toB) i with
   |true=>
    have hw:=ZLg std N b c d ps L x0 i
    simp only[ZaB,Zau,Int.toNat_natCast,hg,e2,←hg2,hB]at hw
    rw[hB]at hq
    exact go hC Zaz hw (by simp[hlt];omega) hq
   |false=>
    have hw:=ZM1 std N b c d ps L x0 i
    simp only[ZaB,Zau,Int.toNat_natCast,hg,e2,←hg2,hB]at hw
    rw[hB]at hq
    exact go hC Zaz hw (by simp[hlt,hbb,AV.bx,Zac,Row.len];omega) hq
 ·rw[List.length_cons]at hX
  show Ev C (Ze2 N b c d ps L x0 i (x::X)) (ZdM N b c d ps L x0 i (x::X)) R
  by_cases hL:L.length≤i
  ·have hw:=ZKu std N b c d ps L x0 i (x::X)
   simp only[ZaB,Zau,Int.toNat_natCast,hg,e2]at hw
   rw[Zew L i hL]at hq
   exact go hC Zaz hw (by simp[hlt,hL,hbb,AV.bx,Zac,Row.len];omega) hq
  ·have hg2:=Zez L i (by omega)
   cases hB:ZcW (L.map AV.toB) i with
   |true=>
    have hw:=ZI9 std N b c d ps L x0 i (x::X)
    simp only[ZaB,Zau,Int.toNat_natCast,hg,e2,←hg2,hB]at hw
    rw[hB]at hq
    exact go hC Zaz hw (by simp[hlt];omega) hq
   |false=>
    have hw:=ZJP std N b c d ps L x0 i (x::X)
    simp only[ZaB,Zau,Int.toNat_natCast,hg,e2,←hg2,hB]at hw
    rw[hB]at hq
    exact go hC Zaz hw (by simp[hlt,hbb,AV.bx,Zac,Row.len];omega) hq
theorem Ztd(x0:List AV)(hx:x0.length≤100)(hb:∀f∈x0,(AV.toIs (AV.cellAt f 3)).length≤1000000)(hv:∀f∈x0,ZH0 f=f)(hq:Aw0 C N b c d ps L R (ZjJ (L.map AV.toB) 0 x0) [] 0 0):∀(t i:Nat) (X:List AV),i+t=x0.length→X.length≤i→X++ZjJ (L.map AV.toB) i (x0.drop i)=ZjJ (L.map AV.toB) 0 x0→Aw2 C N b c d ps L x0 R i X:=by
 intro t
 induction t with
 |zero=>
  intro i X hi hXl hX
  have:i=x0.length:=by omega
  subst this
  rw[List.drop_length,ZjJ,List.append_nil]at hX
  subst hX
  generalize ZjJ (L.map AV.toB) 0 x0=X at*
  rcases X with _ |⟨x,X⟩
  ·exact go hC Zaz (ZJo std N b c d ps L x0 x0.length) (by simp) hq
  ·exact go hC Zaz (ZIY std N b c d ps L x0 x0.length (x::X)) (by simp) hq
 |succ t ih=>
  intro i X hi hXl hX
  have hlt:i<x0.length:=by omega
  refine ZwN hC N b c d ps L hN R x0 hx hb i hlt X (by omega) (ih (i+1) _ (by omega) ?_ ?_)
  ·split
   ·omega
   ·rw[List.length_append,List.length_singleton];omega
  ·rw[List.drop_eq_getElem_cons hlt,ZjJ]at hX
   rw[←hX]
   split
   ·rfl
   ·rw[hv _ (List.getElem_mem hlt),List.append_assoc];rfl
end
theorem ZNr{C:Ctx}(hC:C.P=Try.prog)(N:Nat)(b c d:Int)(ps L:List AV):∀(X W:List AV) (at0:Nat),ZcJ X=true→ZbW N b c X=0→Zpn (exO N b c X)=true→(exO N b c X).map pkT=W.map pkT→Aw0 C N b c d ps L (ZeX 6 (.bool true) none) X W at0 ps.length:=by
 intro X W at0 h1 h2 h3 h4
 rcases X with _ |⟨x,X⟩<;>rcases W with _ |⟨w,W⟩
 ·refine fin hC Zaz (ZJN std N b c d ps L at0 ps.length) ?_ ?_ rfl
  ·rw[h2,h3];simp
  ·rw[h4];simp
 ·refine fin hC Zaz (ZJ6 std N b c d ps L ps.length (w::W) at0) ?_ ?_ rfl
  ·rw[h2,h3];simp
  ·rw[h4];simp
 ·refine fin hC Zaz (ZI4 std N b c d ps L (x::X) at0 ps.length) ?_ ?_ rfl
  ·rw[h2,h3];simp[h1]
  ·rw[h4];simp
 ·refine fin hC Zaz (ZH7 std N b c d ps L (x::X) ps.length (w::W) at0) ?_ ?_ rfl
  ·rw[h2,h3];simp[h1]
  ·rw[h4];simp
theorem ZCN{c d:Int}{N K:Nat}{B S:List Int}{f:AV}(h:f∈Zkm c d N B S K):∃i,i<K∧f=Zil c d N B S i:=by
 rw[Zkm,List.mem_map]at h
 obtain⟨i,h1,h2⟩:=h
 exact⟨i,List.mem_range.1 h1,h2.symm⟩
theorem Zr6{N:Nat}(hN:N≤24)(c d:Int)(B S:List Int)(i:Nat):(AV.toIs (AV.cellAt (Zil c d N B S i) 3)).length≤1000000:=by
 show((B.drop (i*N)).take N).length≤1000000
 rw[List.length_take];omega
theorem ZrG{fs:List AV}(hl:fs.length≤1000)(h:∀f∈fs,(AV.toIs (AV.cellAt f 3)).length≤1000000):ZcJ fs=true:=by
 unfold ZcJ
 rw[Bool.and_eq_true,decide_eq_true_eq,List.all_eq_true]
 exact⟨by omega,fun f hf=>decide_eq_true (h f hf)⟩
theorem Zqp{a b c d:Int}{ps:List AV}(h1:Zao a b=0)(h2:Zby b c=0)(h3:0≤d∧d≤63)(h4:Zbb ps=0)(hf:Zcg ps=true)(hK:ZcS a ps≤24):∃N K:Nat,a=N∧(4≤N∧N≤24)∧K≤24∧ZcS a ps=K∧(Zae (Za9 a ps)).length=K*N∧(∀q∈Za9 a ps,bytP (pkB q))∧Zoo a b c d ps=0∧Znp a b c d ps=Zkm c d N (Zae (Za9 a ps)) (Zai 0 (Za9 a ps)) K∧1≤b∧b≤8∧0≤c∧c≤b-1:=by
 obtain⟨q1,q2,q3,q4⟩:=Zfj h1
 obtain⟨N,K,rfl,hB,_,hK1,_⟩:=Zju ⟨q1,q2⟩ hf
 have hpk:Zjo N b c d ps=0:=by
  rw[Zjo,ZGq,Zsj,if_pos h1,ZiG q3 q4,if_pos h2,decide_eq_true h3,Zdv,if_pos rfl,h4]
 have e3:Zoo N b c d ps=0:=by rw[Zoo,if_pos hpk,if_neg (by omega)]
 have hc:0≤c∧c≤b-1:=by
  unfold Zby at h2
  split at h2
  ·assumption
  ·cases h2
 refine⟨N,K,rfl,by omega,by omega,hK1,hB,Zqn ⟨q1,q2⟩ (Zsm h4),e3,?_,q3,q4,hc⟩
 rw[Znp,if_pos e3,ZxY,hK1]
 rfl
theorem ZjK{L:List Bool}{x:AV} :∀ {xs:List AV} {i:Nat},x∈ZjJ L i xs→x∈xs
 |[],i,h=>by simp[ZjJ]at h
 |y::ys,i,h=>by
  rw[ZjJ]at h
  split at h
  ·exact List.mem_cons_of_mem _ (ZjK h)
  ·rcases List.mem_cons.1 h with rfl |h
   ·simp
   ·exact List.mem_cons_of_mem _ (ZjK h)
theorem ZnR(L:List Bool):∀(xs:List AV) (i:Nat),(ZjJ L i xs).length≤xs.length
 |[],i=>by simp[ZjJ]
 |y::ys,i=>by
  have:=ZnR L ys (i+1)
  rw[ZjJ]
  split
  ·rw[List.length_cons];omega
  ·rw[List.length_cons,List.length_cons];omega
theorem Zs5(a b c d:Int)(ps L:List AV):ZaK Try.prog 6 [.agg (.gen [.int .i64 a, .int .i64 b]), .agg (.gen [.int .i64 c, .int .i64 d, .list (.big (.agg [.int .i64, .int .i64, .ints .i64]) ps), .list (.big .bool L)])] (.bool true) none:=
 start (ZDT a b c d ps L) fun C hC=>by
  by_cases h0:12<ps.length
  ·exact fin hC Zaz (ZMq std a b c d ps L) (by simp;omega) rfl rfl
  by_cases hf:Zcg ps=true
  ·obtain⟨_,hk⟩:=ZeV hf
   by_cases h1:Zao a b=0
   ·obtain⟨q1,q2,q3,q4⟩:=Zfj h1
    have hb: -1000000≤b∧b≤1000000:=by omega
    by_cases h2:Zby b c=0
    ·by_cases h3:0≤d∧d≤63
     ·by_cases h4:Zbb ps=0
      ·have e1:ffE a b ps=0:=by rw[ffE,Zsj,if_pos h1,h4]
       have e2:ffN a b ps=ZcS a ps:=by rw[ffN,if_pos e1]
       obtain⟨N0,K0,hN0,hB0,hKN0,hK0,hK20⟩:=Zju ⟨q1,q2⟩ hf
       by_cases h5:24<ZcS a ps
       ·refine fin hC Zaz (ZNL std a b c d ps L) ?_ rfl rfl
        rw[e1,e2,h4,decide_eq_true h3]
        simp[hf,h1,h2,hb,h5];omega
       ·obtain⟨N,K,rfl,hN,hK,hKf,hB,hQ,e3,e4,hb1,hb2,hc⟩:=Zqp h1 h2 h3 h4 hf (Int.not_lt.1 h5)
        have hw:=ZMx std N b c d ps L
        rw[e1,e2,e3,e4,h4,decide_eq_true h3,hKf]at hw
        have hlen:=Zm0 c d N (Zae (Za9 N ps)) (Zai 0 (Za9 N ps)) K
        have hfr:∀f∈Zkm c d N (Zae (Za9 N ps)) (Zai 0 (Za9 N ps)) K,frE N b f=0∧ZH0 f=f∧(AV.toIs (AV.cellAt f 3)).length≤1000000:=fun f hf=>by
         obtain⟨i,hi,rfl⟩:=ZCN hf
         exact⟨ZB7 (c:=c) hB hQ h3.1 hc i hi,rfl,Zr6 hN.2 c d _ _ i⟩
        have hcam:=ZtJ (L.map AV.toB) c d N (Zae (Za9 N ps)) (Zai 0 (Za9 N ps)) K
        have hwh:=Zqe (L:=L.map AV.toB) (c:=c) (d:=d) h3.1 hK hN hB hQ
        rw[ZtL,←hcam]at hwh
        generalize Zkm c d N (Zae (Za9 N ps)) (Zai 0 (Za9 N ps)) K=x0 at*
        have hr0:Zsc N b x0=0:=ZnT (by omega) fun f hf=>(hfr f hf).1
        have hcl:=ZnR (L.map AV.toB) x0 0
        have hcm:∀f∈ZjJ (L.map AV.toB) 0 x0,f∈x0:=fun f hf=>ZjK hf
        refine go hC Zaz hw ?_ ?_
        ·rw[hr0]
         simp[hf,h1,h2,hb,ZDS,ZKK,hlen];omega
        ·refine Ztd hC N b c d ps L hN (ZeX 6 (.bool true) none) x0 (by omega) (fun f hf=>(hfr f hf).2.2) (fun f hf=>(hfr f hf).2.1) ?_ K 0 [] (by omega) (by simp) (by simp)
         generalize ZjJ (L.map AV.toB) 0 x0=X at*
         have ho:ZbW N b c X=0:=by
          rw[Zw3 X h1,if_pos h2]
          exact ZnT (by omega) fun f hf=>(hfr f (hcm f hf)).1
         refine Zy4 hC N b c d ps L hN (ZeX 6 (.bool true) none) (by omega) hk X _ (fun at0=>ZNr hC N b c d ps L X _ at0 (ZrG (by omega) fun f hf=>(hfr f (hcm f hf)).2.2) ho (ZsM ho) ?_) ps.length 0 0 [] (by omega) (by omega) (by simp) rfl
         rw[Zvq,if_pos ho,hwh]
         rfl
      ·refine fin hC Zaz (ZNx std a b c d ps L) ?_ rfl rfl
       rw[decide_eq_true h3]
       simp[hf,h1,h2,hb,h4];omega
     ·refine fin hC Zaz (ZMk std a b c d ps L) ?_ rfl rfl
      rw[decide_eq_false h3]
      simp[hf,h1,h2,hb];omega
    ·exact fin hC Zaz (ZNz std a b c d ps L) (by simp[hf,h1,h2,hb];omega) rfl rfl
   ·exact fin hC Zaz (ZL7 std a b c d ps L) (by simp[hf,h1];omega) rfl rfl
  ·exact fin hC Zaz (ZM0 std a b c d ps L) (by simp[hf];omega) rfl rfl
end Go.Proofs.Ytjhdnpmojhkbjaa
