/- FrameMixed: the law returns true. No condition. -/
import Derived.Test.YtjhdnpmojhkbjaaQd
namespace Go.Proofs.Ytjhdnpmojhkbjaa
set_option maxRecDepth 20000
theorem Zdr(x:AV):AV.agg (Row.gen [AV.int .i64 (AV.toI (AV.cellAt x 0)),AV.int .i64 (AV.toI (AV.cellAt x 1)),AV.int .i64 (AV.toI (AV.cellAt x 2)),AV.list (.ints .i64 (AV.toIs (AV.cellAt x 3)))])=Zdw x:=rfl
theorem Zrq(b:Int)(x:AV):AV.agg (Row.gen [AV.int .i64 (ZaL (AV.toI (AV.cellAt x 0)+1) b),AV.int .i64 (AV.toI (AV.cellAt x 1)),AV.int .i64 (AV.toI (AV.cellAt x 2)),AV.list (.ints .i64 (AV.toIs (AV.cellAt x 3)))])=Zi4 b x:=rfl
def ZkU(b:Int)(ss:List Int)(i:Nat)(x:AV):List AV:=if i<ss.length∧ZaL (ss.getD i 0) 3=0 then [x,Zi4 b x,Zdw x]else [x]
theorem ZnW(b:Int)(ss:List Int)(i:Nat)(x:AV)(X:List AV):Zhe b (ss.drop i) (x::X)=ZkU b ss i x++Zhe b (ss.drop (i+1)) X:=by
 by_cases h:i<ss.length
 ·have e0:ss.getD i 0=ss[i]:=by simp[h]
  rw[List.drop_eq_getElem_cons h,Zhe,ZkU,e0]
  by_cases h2:ZaL ss[i] 3=0
  ·rw[if_pos h2,if_pos ⟨h,h2⟩]
  ·rw[if_neg h2,if_neg (fun h3=>h2 h3.2)]
 ·rw[List.drop_of_length_le (by omega),List.drop_of_length_le (by omega),Zhe,ZkU,if_neg (fun h3=>h h3.1)];rfl
theorem Zon(b:Int)(ss:List Int)(i:Nat)(x:AV):(ZkU b ss i x).length≤3:=by
 unfold ZkU
 split<;>simp
section
variable {C:Ctx}(hC:C.P=Try.prog)(a b c d:Int)(ps L:List AV)(ss:List Int)(x0:List AV)(R:List AFrame→Zaa→Prop)
include hC
theorem ZMo(X:List AV)(hX:X.length≤100)(h2:2<X.length)(hv:∀x∈X,Zdw x=x)(hl:∀x∈X,(AV.toIs (AV.cellAt x 3)).length≤1000000)(i:Nat)(hi:i<ss.length)(hs:ss.length≤16)
 (hq:Ev C (ZcS a b c d ps L ss x0 (swp (1+ZaL ss[i] ((X.length:Int)-2)).toNat X) ((i+1:Nat):Int)) (Zb0 a b c d ps L ss x0 (swp (1+ZaL ss[i] ((X.length:Int)-2)).toNat X) ((i+1:Nat):Int)) R):
 Ev C (ZcS a b c d ps L ss x0 X i) (Zb0 a b c d ps L ss x0 X i) R:=by
 obtain⟨r1,r2⟩:=Zng (s:=ss[i]) h2
 obtain⟨kk,hkk⟩:∃kk:Nat,(1+ZaL ss[i] ((X.length:Int)-2)).toNat=kk:=⟨_,rfl⟩
 have e1:1+ZaL ss[i] ((X.length:Int)-2)=(kk:Int):=by omega
 rw[hkk]at hq r1 r2
 rw[swp]at hq
 have e0:ss.getD i 0=ss[i]:=by simp[hi]
 have hk1:((kk:Int)+1).toNat=kk+1:=by omega
 have g1:X.getD (kk+1) .top=X[kk+1]:=by simp[r2]
 have g2:X.getD kk .top=X[kk]:=by simp[show kk<X.length by omega]
 have v1:Zdw (X.getD (kk+1) .top)=X.getD (kk+1) .top:=by rw[g1];exact hv _ (List.getElem_mem r2)
 have v2:Zdw (X.getD kk .top)=X.getD kk .top:=by rw[g2];exact hv _ (List.getElem_mem _)
 have l1:(AV.toIs (AV.cellAt (X.getD (kk+1) .top) 3)).length≤1000000:=by rw[g1];exact hl _ (List.getElem_mem r2)
 have l2:(AV.toIs (AV.cellAt (X.getD kk .top) 3)).length≤1000000:=by rw[g2];exact hl _ (List.getElem_mem _)
 have hw:=ZJd std a b c d ps L ss x0 X i
 simp only[ZaC,Zfw,Zar,ZjR,ZaW,ZbT,ZcZ,Zhp,Int.toNat_natCast,e0,e1,hk1,Zdr,v1,v2]at hw
 generalize X.getD (kk+1) .top=y1 at*
 generalize X.getD kk .top=y2 at*
 exact go hC Za0 hw (by simp[hi,r2,hk1];exact⟨by omega,by omega,by omega,by omega,by omega,by omega,decide_eq_true ⟨by omega,by omega⟩,by omega,by omega⟩) hq
theorem ZIk(hs:ss.length≤16)(Q:List AV→Prop):∀(t i:Nat) (X:List AV),i+t=ss.length→X.length≤100→(∀x∈X,Zdw x=x)→(∀x∈X,(AV.toIs (AV.cellAt x 3)).length≤1000000)→
 (∀Y,Y=(if 2<X.length then Ztf (ss.drop i) X else X)→Ev C (ZdM a b c d ps L ss x0 Y) (ZcG a b c d ps L ss x0 Y) R)→Ev C (ZcS a b c d ps L ss x0 X i) (Zb0 a b c d ps L ss x0 X i) R:=by
 intro t
 induction t with
 |zero=>
  intro i X hi _ _ _ hq
  have:i=ss.length:=by omega
  subst this
  refine go hC Za0 (ZI6 std a b c d ps L ss x0 X ss.length) (by simp) (hq X ?_)
  rw[List.drop_length,Ztf];split<;>rfl
 |succ t ih=>
  intro i X hi hX hv hl hq
  have hlt:i<ss.length:=by omega
  by_cases h2:2<X.length
  ·obtain⟨r1,r2⟩:=Zng (s:=ss[i]) h2
   refine ZMo hC a b c d ps L ss x0 R X hX h2 hv hl i hlt hs (ih (i+1) _ (by omega) (by rw[ZkL];exact hX) (fun x hx=>hv x ((Zmy r2 x).1 hx)) (fun x hx=>hl x ((Zmy r2 x).1 hx)) fun Y hY=>hq Y ?_)
   rw[hY,ZkL,if_pos h2,if_pos h2,List.drop_eq_getElem_cons hlt,Ztf]
  ·exact go hC Za0 (ZI0 std a b c d ps L ss x0 X i) (by simp[hlt];omega) (hq X (by rw[if_neg h2]))
def Ab(C:Ctx)(a b c d:Int)(ps L:List AV)(ss:List Int)(x0:List AV)(R:List AFrame→Zaa→Prop)(X:List AV)(i:Int)(Z:List AV):Prop:=
 Ev C (Zck a b c d ps L ss x0 X i Z) (ZbO a b c d ps L ss x0 X i Z) R∧Ev C (Zcj a b c d ps L ss x0 X i Z) (ZbP a b c d ps L ss x0 X i Z) R
theorem ZOs(hb:1≤b∧b≤100)(hss:ss.length≤16)(X:List AV)(hX:X.length≤100)(hv:∀x∈X,Zdw x=x)(hl:∀x∈X,(AV.toIs (AV.cellAt x 3)).length≤1000000)(hch:∀x∈X,0≤AV.toI (AV.cellAt x 0)∧AV.toI (AV.cellAt x 0)≤100)(i:Nat)(hi:i<X.length)(Z:List AV)(hZ:Z.length≤1000)
 (hq:Ab C a b c d ps L ss x0 R X ((i+1:Nat):Int) (Z++ZkU b ss i X[i])):Ev C (Zck a b c d ps L ss x0 X i Z) (ZbO a b c d ps L ss x0 X i Z) R:=by
 have hg:X.getD i .top=X[i]:=by simp[hi]
 have hvi:=hv X[i] (List.getElem_mem hi)
 have hli:=hl X[i] (List.getElem_mem hi)
 have hci:=hch X[i] (List.getElem_mem hi)
 have e2:(i:Int)+1=((i+1:Nat):Int):=by omega
 by_cases h1:i<ss.length
 ·have e0:ss.getD i 0=ss[i]:=by simp[h1]
  by_cases h2:ZaL ss[i] 3=0
  ·have hw:=ZCy std a b c d ps L ss x0 X i Z
   simp only[ZaC,Zfw,Zar,ZbT,Zc6,Int.toNat_natCast,hg,e0,Zdr,Zrq,hvi,e2,h2]at hw
   rw[ZkU,e0,if_pos ⟨h1,h2⟩,hvi,show Z++[X[i],Zi4 b X[i],X[i]]=Z++[X[i]]++[Zi4 b X[i],X[i]] by simp]at hq
   have hbx:AV.bx X[i]=true∧Zac std X[i]=4:=by rw[←hvi];exact⟨rfl,rfl⟩
   have hbo:AV.bx (Zi4 b X[i])=true∧Zac std (Zi4 b X[i])=4:=⟨rfl,rfl⟩
   generalize Zi4 b X[i]=ot at*
   generalize X[i]=xi at*
   exact go hC Za0 hw (by simp[hi,h1,hbx,hbo]<;>omega) hq.1
  ·have hw:=ZHs std a b c d ps L ss x0 X i Z
   simp only[ZaC,Zfw,Zar,ZbT,Zc6,Int.toNat_natCast,hg,e0,Zdr,hvi,e2]at hw
   rw[ZkU,e0,if_neg (fun h3=>h2 h3.2)]at hq
   have hbx:AV.bx X[i]=true∧Zac std X[i]=4:=by rw[←hvi];exact⟨rfl,rfl⟩
   generalize X[i]=xi at*
   exact go hC Za0 hw (by simp[hi,h1,h2,hbx]<;>omega) hq.2
 ·have hw:=ZFK std a b c d ps L ss x0 X i Z
  simp only[ZaC,Zar,ZbT,Zc6,Int.toNat_natCast,hg,Zdr,hvi,e2]at hw
  rw[ZkU,if_neg (fun h3=>h1 h3.1)]at hq
  have hbx:AV.bx X[i]=true∧Zac std X[i]=4:=by rw[←hvi];exact⟨rfl,rfl⟩
  generalize X[i]=xi at*
  exact go hC Za0 hw (by simp[hi,h1,hbx]<;>omega) hq.2
theorem ZOB(hb:1≤b∧b≤100)(hss:ss.length≤16)(X:List AV)(hX:X.length≤100)(hv:∀x∈X,Zdw x=x)(hl:∀x∈X,(AV.toIs (AV.cellAt x 3)).length≤1000000)(hch:∀x∈X,0≤AV.toI (AV.cellAt x 0)∧AV.toI (AV.cellAt x 0)≤100)(i:Nat)(hi:i<X.length)(Z:List AV)(hZ:Z.length≤1000)
 (hq:Ab C a b c d ps L ss x0 R X ((i+1:Nat):Int) (Z++ZkU b ss i X[i])):Ev C (Zcj a b c d ps L ss x0 X i Z) (ZbP a b c d ps L ss x0 X i Z) R:=by
 have hg:X.getD i .top=X[i]:=by simp[hi]
 have hvi:=hv X[i] (List.getElem_mem hi)
 have hli:=hl X[i] (List.getElem_mem hi)
 have hci:=hch X[i] (List.getElem_mem hi)
 have e2:(i:Int)+1=((i+1:Nat):Int):=by omega
 by_cases h1:i<ss.length
 ·have e0:ss.getD i 0=ss[i]:=by simp[h1]
  by_cases h2:ZaL ss[i] 3=0
  ·have hw:=ZCI std a b c d ps L ss x0 X i Z
   simp only[ZaC,Zfw,Zar,ZbT,Zc6,Int.toNat_natCast,hg,e0,Zdr,Zrq,hvi,e2,h2]at hw
   rw[ZkU,e0,if_pos ⟨h1,h2⟩,hvi,show Z++[X[i],Zi4 b X[i],X[i]]=Z++[X[i]]++[Zi4 b X[i],X[i]] by simp]at hq
   have hbx:AV.bx X[i]=true∧Zac std X[i]=4:=by rw[←hvi];exact⟨rfl,rfl⟩
   have hbo:AV.bx (Zi4 b X[i])=true∧Zac std (Zi4 b X[i])=4:=⟨rfl,rfl⟩
   generalize Zi4 b X[i]=ot at*
   generalize X[i]=xi at*
   exact go hC Za0 hw (by simp[hi,h1,hbx,hbo]<;>omega) hq.1
  ·have hw:=ZGr std a b c d ps L ss x0 X i Z
   simp only[ZaC,Zfw,Zar,ZbT,Zc6,Int.toNat_natCast,hg,e0,Zdr,hvi,e2]at hw
   rw[ZkU,e0,if_neg (fun h3=>h2 h3.2)]at hq
   have hbx:AV.bx X[i]=true∧Zac std X[i]=4:=by rw[←hvi];exact⟨rfl,rfl⟩
   generalize X[i]=xi at*
   exact go hC Za0 hw (by simp[hi,h1,h2,hbx]<;>omega) hq.2
 ·have hw:=ZE0 std a b c d ps L ss x0 X i Z
  simp only[ZaC,Zar,ZbT,Zc6,Int.toNat_natCast,hg,Zdr,hvi,e2]at hw
  rw[ZkU,if_neg (fun h3=>h1 h3.1)]at hq
  have hbx:AV.bx X[i]=true∧Zac std X[i]=4:=by rw[←hvi];exact⟨rfl,rfl⟩
  generalize X[i]=xi at*
  exact go hC Za0 hw (by simp[hi,h1,hbx]<;>omega) hq.2
theorem ZO3(hb:1≤b∧b≤100)(hss:ss.length≤16)(X:List AV)(hX:X.length≤100)(hv:∀x∈X,Zdw x=x)(hl:∀x∈X,(AV.toIs (AV.cellAt x 3)).length≤1000000)(hch:∀x∈X,0≤AV.toI (AV.cellAt x 0)∧AV.toI (AV.cellAt x 0)≤100)(hi:0<X.length)
 (hq:Ab C a b c d ps L ss x0 R X ((0+1:Nat):Int) (ZkU b ss 0 X[0])):Ev C (ZdM a b c d ps L ss x0 X) (ZcG a b c d ps L ss x0 X) R:=by
 have hg:X.getD 0 .top=X[0]:=by simp[hi]
 have hvi:=hv X[0] (List.getElem_mem hi)
 have hli:=hl X[0] (List.getElem_mem hi)
 have hci:=hch X[0] (List.getElem_mem hi)
 have e2:(0:Int)+1=((0+1:Nat):Int):=by omega
 have e9:Int.toNat 0=0:=rfl
 by_cases h1:0<ss.length
 ·have e0:ss.getD 0 0=ss[0]:=by simp[h1]
  by_cases h2:ZaL ss[0] 3=0
  ·have hw:=ZDY std a b c d ps L ss x0 X
   simp only[ZaC,Zfw,Zar,ZbT,Zc6,e9,hg,e0,Zdr,Zrq,hvi,e2,h2]at hw
   rw[ZkU,e0,if_pos ⟨h1,h2⟩,hvi,show [X[0],Zi4 b X[0],X[0]]=[X[0]]++[Zi4 b X[0],X[0]]from rfl]at hq
   have hbx:AV.bx X[0]=true∧Zac std X[0]=4:=by rw[←hvi];exact⟨rfl,rfl⟩
   have hbo:AV.bx (Zi4 b X[0])=true∧Zac std (Zi4 b X[0])=4:=⟨rfl,rfl⟩
   generalize Zi4 b X[0]=ot at*
   generalize X[0]=xi at*
   exact go hC Za0 hw (by simp[hi,h1,hbx,hbo]<;>omega) hq.1
  ·have hw:=ZDW std a b c d ps L ss x0 X
   simp only[ZaC,Zfw,Zar,ZbT,Zc6,e9,hg,e0,Zdr,hvi,e2]at hw
   rw[ZkU,e0,if_neg (fun h3=>h2 h3.2)]at hq
   have hbx:AV.bx X[0]=true∧Zac std X[0]=4:=by rw[←hvi];exact⟨rfl,rfl⟩
   generalize X[0]=xi at*
   exact go hC Za0 hw (by simp[hi,h1,h2,hbx]<;>omega) hq.2
 ·have hw:=ZJi std a b c d ps L ss x0 X
  simp only[ZaC,Zar,ZbT,Zc6,e9,hg,Zdr,hvi,e2]at hw
  rw[ZkU,if_neg (fun h3=>h1 h3.1)]at hq
  have hbx:AV.bx X[0]=true∧Zac std X[0]=4:=by rw[←hvi];exact⟨rfl,rfl⟩
  generalize X[0]=xi at*
  exact go hC Za0 hw (by simp[hi,h1,hbx]<;>omega) hq.2
theorem ZDk(hb:1≤b∧b≤100)(hss:ss.length≤16)(X:List AV)(hX:X.length≤100)(hv:∀x∈X,Zdw x=x)(hl:∀x∈X,(AV.toIs (AV.cellAt x 3)).length≤1000000)(hch:∀x∈X,0≤AV.toI (AV.cellAt x 0)∧AV.toI (AV.cellAt x 0)≤100)(hend:Ab C a b c d ps L ss x0 R X X.length (Zhe b ss X)):∀(t i:Nat) (Z:List AV),i+t=X.length→Z.length≤3*i→Z++Zhe b (ss.drop i) (X.drop i)=Zhe b ss X→Ab C a b c d ps L ss x0 R X i Z:=by
 intro t
 induction t with
 |zero=>
  intro i Z hi hZ he
  have:i=X.length:=by omega
  subst this
  rw[List.drop_length,Zhe,List.append_nil]at he
  rw[he];exact hend
 |succ t ih=>
  intro i Z hi hZ he
  have hlt:i<X.length:=by omega
  have h1:=Zon b ss i X[i]
  rw[List.drop_eq_getElem_cons hlt,ZnW,←List.append_assoc]at he
  have:=ih (i+1) (Z++ZkU b ss i X[i]) (by omega) (by rw[List.length_append];omega) he
  exact⟨ZOs hC a b c d ps L ss x0 R hb hss X hX hv hl hch i hlt Z (by omega) this,ZOB hC a b c d ps L ss x0 R hb hss X hX hv hl hch i hlt Z (by omega) this⟩
theorem ZLI(X Z:List AV)(hs0:Zaw x0=true)(hsZ:Zaw Z=true)(ho0:ZaI a b c x0=0)(hl0:ZrM (exO a b c x0)=true)(hZ:Z.length≤40→ZaI a b c Z=0∧exO a b c Z=exO a b c x0∧Zid a b c Z=0∧ZkV a b c Z=x0):Ab C a b c d ps L ss x0 (ZdV 10 (.bool true) none) X X.length Z:=by
 have hlen:Z.length≤1000000:=(Ze7 hsZ).1
 by_cases h:40<Z.length
 ·exact⟨fin hC Za0 (ZDp std a b c d ps L ss x0 X X.length Z) (by simp;omega) rfl rfl,fin hC Za0 (ZGm std a b c d ps L ss x0 X X.length Z) (by simp;omega) rfl rfl⟩
 ·obtain⟨z1,z2,z3,z4⟩:=hZ (by omega)
  have hG:=ZHX (a:=a) (b:=b) (c:=c) hsZ
  have hw:=ZHJ std a b c d ps L ss x0 X X.length Z
  have hw2:=ZG0 std a b c d ps L ss x0 X X.length Z
  rw[z1,z2,z3,ho0,hs0,hsZ,hl0,hG,z4]at hw hw2
  exact⟨fin hC Za0 hw (by simp;omega) (by simp) rfl,fin hC Za0 hw2 (by simp;omega) (by simp) rfl⟩
end
theorem ZmX(b:Int):∀(ss:List Int) (X:List AV),(Zhe b ss X).length≤3*X.length
 |_,[]=>by simp[Zhe]
 |[],x::X=>by
  have:=ZmX b [] X
  rw[Zhe,List.length_cons,List.length_cons];omega
 |s::ss,x::X=>by
  have:=ZmX b ss X
  rw[Zhe,List.length_append,List.length_cons]
  split
  ·rw[show [x,Zi4 b x,Zdw x].length=3 from rfl];omega
  ·rw[List.length_singleton];omega
theorem ZnI(c:Int):Zdc c []=[]:=by
 have:=ZdZ c []
 exact List.length_eq_zero_iff.1 (by simpa using this)
theorem ZIu{b c:Int}(h1:2≤b)(h2:b≤8)(h3:0≤c∧c≤b-1):ZaL (c+1) b≠c∧0≤ZaL (c+1) b∧ZaL (c+1) b≤b-1:=by
 unfold ZaL
 by_cases h:c+1<b
 ·rw[Int.tmod_eq_of_lt (by omega) h,if_neg (by omega)];omega
 ·have:c+1=b:=by omega
  rw[this,Int.tmod_self,if_neg (by omega)];omega
theorem ZEm{N K:Nat}{b c d:Int}{Q:List AV}(hr:Zat N b=0)(hch:Zbn b c=0)(hb2:2≤b)(hb8:b≤8)(hc:0≤c∧c≤b-1)(hd:0≤d∧d≤63)(hK:K≤24)(hK0:0<K)(hN:4≤N∧N≤24)(hB:(Zag Q).length=K*N)(hQ:∀q∈Q,bytP (pkB q))(X Z:List AV)(ss:List Int)
 (hX:∀y,y∈X↔y∈Zge c d N (Zag Q) (Zah 0 Q) K) (hX0:X[0]? =(Zge c d N (Zag Q) (Zah 0 Q) K)[0]?) (hZ:Z=Zhe b ss X) (hZl:Z.length≤40):
 ZaI N b c Z=0∧exO N b c Z=exO N b c (Zge c d N (Zag Q) (Zah 0 Q) K)∧Zid N b c Z=0∧ZkV N b c Z=Zge c d N (Zag Q) (Zah 0 Q) K:=by
 have hx0:Zge c d N (Zag Q) (Zah 0 Q) K=Zdd c d N (Zag Q) (Zah 0 Q) 0::(Zge c d N (Zag Q) (Zah 0 Q) K).tail:=by
  obtain⟨K,rfl⟩:∃k,K=k+1:=⟨K-1,by omega⟩
  rw[Zge,List.range_succ_eq_map];rfl
 have hof:∀x,x∈Zge c d N (Zag Q) (Zah 0 Q) K↔∃i,i<K∧x=Zdd c d N (Zag Q) (Zah 0 Q) i:=fun x=>by
  constructor
  ·exact Zqe
  ·rintro⟨i,h1,rfl⟩
   rw[Zge,List.mem_map];exact⟨i,List.mem_range.2 h1,rfl⟩
 have hmem:∀z∈Z,∃i,i<K∧(z=Zdd c d N (Zag Q) (Zah 0 Q) i∨z=Zi4 b (Zdd c d N (Zag Q) (Zah 0 Q) i)):=fun z hz=>by
  rw[hZ]at hz
  obtain⟨x,h1,h2⟩:=Zke hz
  obtain⟨i,h3,rfl⟩:=(hof x).1 ((hX x).1 h1)
  rcases h2 with h2 |h2 |h2
  ·exact⟨i,h3, .inl h2⟩
  ·exact⟨i,h3, .inr h2⟩
  ·exact⟨i,h3, .inl h2⟩
 obtain⟨m1,m2,m3⟩:=ZIu hb2 hb8 hc
 have hfr:∀z∈Z,frE N b z=0:=fun z hz=>by
  obtain⟨i,h1,h2⟩:=hmem z hz
  rcases h2 with rfl |rfl
  ·exact Zoi (c:=c) hB hQ hd.1 hc i h1
  ·exact Zoi (c:=c) (c':=ZaL (c+1) b) hB hQ hd.1 ⟨m2,m3⟩ i h1
 have ho:ZaI N b c Z=0:=by
  rw[ZkQ Z hr,if_pos hch]
  exact ZkJ hZl hfr
 have hlen:=Zj8 c d N (Zag Q) (Zah 0 Q) K
 have ho0:ZaI N b c (Zge c d N (Zag Q) (Zah 0 Q) K)=0:=by
  rw[ZkQ _ hr,if_pos hch]
  refine ZkJ (by omega) fun f hf=>?_
  obtain⟨i,h1,rfl⟩:=Zqe hf
  exact Zoi (c:=c) hB hQ hd.1 hc i h1
 have hch2:∀z∈Z,chF z=c→∃i,i<K∧z=Zdd c d N (Zag Q) (Zah 0 Q) i:=fun z hz h=>by
  obtain⟨i,h1,h2⟩:=hmem z hz
  rcases h2 with h2 |h2
  ·exact⟨i,h1,h2⟩
  ·rw[h2]at h
   exact absurd h m1
 obtain⟨Y,hXY⟩:∃Y,X=Zdd c d N (Zag Q) (Zah 0 Q) 0::Y:=by
  rw[hx0]at hX0
  cases X with
  |nil=>simp at hX0
  |cons x Y=>simp at hX0;exact⟨Y,by rw[hX0]⟩
 obtain⟨Z',hZ'⟩:=Ztc b ss (Zdd c d N (Zag Q) (Zah 0 Q) 0) Y
 have hZ2:Z=Zdd c d N (Zag Q) (Zah 0 Q) 0::Z':=by rw[hZ,hXY,hZ']
 have hall:∀i,i<K→Zdd c d N (Zag Q) (Zah 0 Q) i∈Zdd c d N (Zag Q) (Zah 0 Q) 0::Z':=fun i hi=>by
  rw[←hZ2,hZ]
  exact ZmD ((hX _).2 ((hof _).2 ⟨i,hi,rfl⟩))
 have hord:Zdc c Z=(List.range K).map (Zqd N c d (d+64) Q):=by
  rw[hZ2]
  exact Zqy hd.1 hK hd.2 hK0 Z' (fun x hx=>hch2 x (by rw[hZ2];simp[hx])) hall
 have hord0:Zdc c (Zge c d N (Zag Q) (Zah 0 Q) K)=(List.range K).map (Zqd N c d (d+64) Q):=by
  rw[hx0]
  refine Zqy hd.1 hK hd.2 hK0 _ (fun x hx _=>(hof x).1 (by rw[hx0];exact List.mem_cons_of_mem _ hx)) fun i hi=>?_
  rw[←hx0];exact(hof _).2 ⟨i,hi,rfl⟩
 refine⟨ho,?_,?_,?_⟩
 ·rw[Zsw,Zsw,if_pos ho,if_pos ho0,hord,hord0]
 ·rw[Zid,if_pos ho,hord,Zi1,List.length_map,List.length_range,if_neg (by omega)]
  have g1:((List.range K).map (Zqd N c d (d+64) Q)).getD (K-1) .top=Zqd N c d (d+64) Q (K-1):=by simp[show K-1<K by omega]
  have g2:((List.range K).map (Zqd N c d (d+64) Q)).getD 0 .top=Zqd N c d (d+64) Q 0:=by simp[hK0]
  rw[g1,g2]
  show d+64+((K-1:Nat):Int)-(d+64+((0:Nat):Int))+1-(K:Int)=0
  omega
 ·rw[Znd,if_pos ho,hord,List.map_map]
  rfl
theorem Ztx(a b c d:Int)(ps L:List AV)(ss:List Int):ZaH Try.prog 10 [.agg (.gen [.int .i64 a, .int .i64 b]), .agg (.gen [.int .i64 c, .int .i64 d, .list (.big (.agg [.int .i64, .int .i64, .ints .i64]) ps), .list (.big .bool L)]), .list (.ints .i64 ss)] (.bool true) none:=by
 by_cases hz:ps.length≤12∧ss.length≤16∧ZbW ps=true∧Zat a b=0∧2≤b∧Zbn b c=0∧(0≤d∧d≤63)∧ZbV ps=0∧ZbG a ps=0
 ·obtain⟨h0,hs,hf,h1,hb2,h2,h3,h4,h5⟩:=hz
  obtain⟨N,K,rfl,hN,hK,hKf,hB,hQ,e3,e4,hb1,hb8,hc⟩:=ZkX h1 h2 h3 h4 hf (by omega)
  have hK0:K=0:=by omega
  subst hK0
  have hb: -1000000≤b∧b≤1000000:=by omega
  have ho:ZaI N b c []=0:=by rw[ZkQ _ h1,if_pos h2];rfl
  refine start (Ztj N b c d ps L ss) fun C hC=>?_
  have hw:=ZI2 std N b c d ps L ss
  rw[e3,e4,h4,decide_eq_true h3,show Zge c d N (Zag (Za1 N ps)) (Zah 0 (Za1 N ps)) 0=[]from rfl]at hw
  refine go hC Zn7 hw ?_ ?_
  ·rw[show Zqc N b []=0 from rfl]
   simp[hf,h1,h2,hb,Zy2,ZJH,h5];omega
  ·have hend:Ev C (Zgv N b c d ps L ss []) (ZfE N b c d ps L ss []) (ZdV 10 (.bool true) none):=by
    have hG:=ZHX (a:=N) (b:=b) (c:=c) (fs:=[]) rfl
    have hm:Zid N b c []=0:=by rw[Zid,if_pos ho,ZnI];rfl
    have hoo:ZkV N b c []=[]:=by rw[Znd,if_pos ho,ZnI];rfl
    have hl:=ZnE ho
    refine fin hC Zn7 (ZA1 std N b c d ps L ss []) ?_ ?_ rfl
    ·rw[ho,hl,hm,hG]
     simp[Zaw]
    ·rw[hoo];simp
   cases ss with
   |nil=>exact go hC Zn7 (Zyu std N b c d ps L [] []) (by simp) hend
   |cons s ss=>exact go hC Zn7 (Zyv std N b c d ps L (s::ss) []) (by simp) hend
 ·refine start (ZxV a b c d ps L ss) fun C hC=>?_
  by_cases h0:12<ps.length
  ·exact fin hC Za0 (ZLG std a b c d ps L ss) (by simp;omega) rfl rfl
  by_cases hs:16<ss.length
  ·exact fin hC Za0 (ZLZ std a b c d ps L ss) (by simp;omega) rfl rfl
  by_cases hf:ZbW ps=true
  ·by_cases h1:Zat a b=0
   ·obtain⟨q1,q2,q3,q4⟩:=Zin h1
    have hb: -1000000≤b∧b≤1000000:=by omega
    by_cases hb2:b<2
    ·exact fin hC Za0 (ZMk std a b c d ps L ss) (by simp[hf,h1,hb2];omega) rfl rfl
    by_cases h2:Zbn b c=0
    ·by_cases h3:0≤d∧d≤63
     ·by_cases h4:ZbV ps=0
      ·by_cases h5:16<ZbG a ps
       ·refine fin hC Za0 (ZMr std a b c d ps L ss) ?_ rfl rfl
        rw[h4,decide_eq_true h3]
        simp[hf,h1,h2,hb,h5,q1,q2];omega
       ·obtain⟨N,K,rfl,hN,hK,hKf,hB,hQ,e3,e4,hb1,hb8,hc⟩:=ZkX h1 h2 h3 h4 hf (by omega)
        have hK0:0<K:=by
         rcases Nat.eq_zero_or_pos K with h |h
         ·exact absurd ⟨by omega,by omega,hf,h1,by omega,h2,h3,h4,by omega⟩ hz
         ·exact h
        have hlen:=Zj8 c d N (Zag (Za1 N ps)) (Zah 0 (Za1 N ps)) K
        have hmix:=fun X Z=>ZEm h1 h2 (Int.not_lt.1 hb2) hb8 hc h3 hK hK0 hN hB hQ X Z ss
        have hfr:∀f∈Zge c d N (Zag (Za1 N ps)) (Zah 0 (Za1 N ps)) K,frE N b f=0∧Zdw f=f∧(AV.toIs (AV.cellAt f 3)).length≤1000000∧AV.toI (AV.cellAt f 0)=c:=fun f hf=>by
         obtain⟨i,hi,rfl⟩:=Zqe hf
         exact⟨Zoi (c:=c) hB hQ h3.1 hc i hi,rfl,Zrx hN.2 c d _ _ i,rfl⟩
        have hw:=ZME std N b c d ps L ss
        rw[e3,e4,h4,decide_eq_true h3]at hw
        generalize Zge c d N (Zag (Za1 N ps)) (Zah 0 (Za1 N ps)) K=x0 at*
        have hr0:Zqc N b x0=0:=ZkJ (by omega) fun f hf=>(hfr f hf).1
        have hmv:x0.map Zdw=x0:=by
         conv=>rhs;rw[←List.map_id x0]
         exact List.map_congr_left fun f hf=>(hfr f hf).2.1
        have hsm:Zaw x0=true:=Zlm (by omega) fun f hf=>(hfr f hf).2.2.1
        have ho0:ZaI N b c x0=0:=by rw[ZkQ _ h1,if_pos h2];exact hr0
        have hne:neB x0=true:=by
         unfold neB
         rw[hsm]
         cases x0 with
         |nil=>simp at hlen;omega
         |cons=>rfl
        rw[hmv,hne,hr0]at hw
        refine go hC Za0 hw ?_ ?_
        ·simp[hf,h1,h2,hb,Zy2,ZJH,hlen];omega
        ·refine ZIk hC N b c d ps L ss x0 (ZdV 10 (.bool true) none) (by omega) (fun _=>True) ss.length 0 x0 (by omega) (by omega) (fun f hf=>(hfr f hf).2.1) (fun f hf=>(hfr f hf).2.2.1) fun Y hY=>?_
         have hYm:(∀y,y∈Y↔y∈x0)∧Y[0]? =x0[0]?∧Y.length=x0.length:=by
          rw[hY]
          split
          ·rename_i h9
           obtain⟨s1,s2,s3⟩:=ZvM (ss.drop 0) x0 h9
           exact⟨s3,s2,s1⟩
          ·exact⟨fun _=>Iff.rfl,rfl,rfl⟩
         clear hY
         obtain⟨y1,y2,y3⟩:=hYm
         have hv:∀x∈Y,Zdw x=x:=fun x hx=>(hfr x ((y1 x).1 hx)).2.1
         have hl:∀x∈Y,(AV.toIs (AV.cellAt x 3)).length≤1000000:=fun x hx=>(hfr x ((y1 x).1 hx)).2.2.1
         have hcc:∀x∈Y,0≤AV.toI (AV.cellAt x 0)∧AV.toI (AV.cellAt x 0)≤100:=fun x hx=>by rw[(hfr x ((y1 x).1 hx)).2.2.2];omega
         have hZs:Zaw (Zhe b ss Y)=true:=by
          refine Zlm (by have:=ZmX b ss Y;omega) fun z hz=>?_
          obtain⟨x,h7,h8⟩:=Zke hz
          rcases h8 with h8 |h8 |h8
          ·rw[h8];exact hl x h7
          ·rw[h8];exact hl x h7
          ·rw[h8];exact hl x h7
         have hend:=ZLI hC N b c d ps L ss x0 Y (Zhe b ss Y) hsm hZs ho0 (ZnE ho0) (fun h=>hmix Y _ y1 y2 rfl h)
         have hpos:0<Y.length:=by omega
         refine ZO3 hC N b c d ps L ss x0 _ (by omega) (by omega) Y (by omega) hv hl hcc hpos ?_
         refine ZDk hC N b c d ps L ss x0 _ (by omega) (by omega) Y (by omega) hv hl hcc hend (Y.length-1) 1 _ (by omega) (Zon _ _ _ _) ?_
         have:=ZnW b ss 0 Y[0] (Y.drop 1)
         rw[List.drop_zero,←List.drop_eq_getElem_cons hpos,List.drop_zero]at this
         exact this.symm
      ·refine fin hC Za0 (ZLx std a b c d ps L ss) ?_ rfl rfl
       rw[decide_eq_true h3]
       simp[hf,h1,h2,hb,h4];omega
     ·refine fin hC Za0 (ZLP std a b c d ps L ss) ?_ rfl rfl
      rw[decide_eq_false h3]
      simp[hf,h1,h2,hb];omega
    ·exact fin hC Za0 (ZMs std a b c d ps L ss) (by simp[hf,h1,h2,hb];omega) rfl rfl
   ·exact fin hC Za0 (ZM6 std a b c d ps L ss) (by simp[hf,h1];omega) rfl rfl
  ·exact fin hC Za0 (ZJ8 std a b c d ps L ss) (by simp[hf];omega) rfl rfl
end Go.Proofs.Ytjhdnpmojhkbjaa
