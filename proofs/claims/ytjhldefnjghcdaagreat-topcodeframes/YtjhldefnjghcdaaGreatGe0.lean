/- Contracts as a list. No condition. -/
import Derived.Test.YtjhldefnjghcdaaGreatSr
import Derived.KernelRfl
namespace Go.Proofs.YtjhldefnjghcdaaGreat
def J8:List Ctr:=J7
theorem ZNn:Zar Tryz.prog J8:=ZMr
end Go.Proofs.YtjhldefnjghcdaaGreat
namespace Go.Proofs.YtjhldefnjghcdaaGreat
set_option maxRecDepth 100000
set_option linter.unusedVariables false
def ZKy(m g0 g1:Int):AFrame:=vF 21 82 [(0,AV.agg (Row.gen [.int .i64 m, .int .i64 g0, .int .i64 g1]))] [.code a21.code] [.tmp 2,.tmp 3]
def ZQF(m g0 g1:Int):List AFrame:=[(ZKy m g0 g1)]
theorem ZDo(m g0 g1:Int):Zak tab 21 [AV.agg (Row.gen [.int .i64 m, .int .i64 g0, .int .i64 g1])]=some (ZKy m g0 g1):=rfl
def Zgc(m g0 g1 n0 n1:Int)(l2:zI)(n3 n4:Int):List AFrame:=[vF 21 82 [(5,AV.fn 47 [AV.ptr 21002 0 0 0]),vI 6 n0,vR 7 21027,vI 10 n4,vI 37 n1,vI 38 n3] (vC ZI8 ZNj) [.tmp 2,.tmp 3]]
def Zej(m g0 g1 n0 n1:Int)(l2:zI)(n3 n4:Int):Zaa:=[(21002,{ base:=0,blks:=[Blk.row 24 3 (Row.gen [AV.agg (Row.gen [AV.int .i64 m,AV.int .i64 g0,AV.int .i64 g1])])] }),vK 21027 l2]
abbrev Zm1(m g0 g1 n0 n1:Int)(l2:zI)(n3 n4:Int):List AFrame×Zaa:=(Zgc m g0 g1 n0 n1 l2 n3 n4,Zej m g0 g1 n0 n1 l2 n3 n4)
def Zi7(m g0 g1 n0 n1 n3 n5 n6:Int)(l7:zI):List AFrame:=[vF 21 82 [(5,AV.fn 47 [AV.ptr 21002 0 0 0]),vI 6 n0,vR 7 21027,vI 10 n5,vI 11 n6,vI 37 n1,vI 38 n3] (vC ZGq ZLX) [.tmp 2,.tmp 3]]
def Zg2(m g0 g1 n0 n1 n3 n5 n6:Int)(l7:zI):Zaa:=[(21002,{ base:=0,blks:=[Blk.row 24 3 (Row.gen [AV.agg (Row.gen [AV.int .i64 m,AV.int .i64 g0,AV.int .i64 g1])])] }),vK 21027 l7]
abbrev ZlS(m g0 g1 n0 n1 n3 n5 n6:Int)(l7:zI):List AFrame×Zaa:=(Zi7 m g0 g1 n0 n1 n3 n5 n6 l7,Zg2 m g0 g1 n0 n1 n3 n5 n6 l7)
def ZfA(m g0 g1 n0 n1 n3 n6 n8 n9:Int)(l10:zI):List AFrame:=[vF 21 82 [(5,AV.fn 47 [AV.ptr 21002 0 0 0]),vI 6 n0,vR 7 21027,vI 10 n8,vI 11 n6,vI 37 n1,vI 38 n3,vI 45 n9] (vC ZIn ZMg) [.tmp 2,.tmp 3]]
def ZeV(m g0 g1 n0 n1 n3 n6 n8 n9:Int)(l10:zI):Zaa:=[(21002,{ base:=0,blks:=[Blk.row 24 3 (Row.gen [AV.agg (Row.gen [AV.int .i64 m,AV.int .i64 g0,AV.int .i64 g1])])] }),vK 21027 l10]
abbrev ZgR(m g0 g1 n0 n1 n3 n6 n8 n9:Int)(l10:zI):List AFrame×Zaa:=(ZfA m g0 g1 n0 n1 n3 n6 n8 n9 l10,ZeV m g0 g1 n0 n1 n3 n6 n8 n9 l10)
def ZDH(A:Ar)(K:KT)(F:FT)(m g0 g1:Int):Prop:=let u0:=A.add (A.nth [oS m g0 0 1,oS m g1 0 1] 0) (A.nth [oS m g0 0 1,oS m g1 0 1] 1);let u1:=A.shl 1 m;let u2:=A.len [oS m g0 0 1,oS m g1 0 1];let u3:=A.len (List.replicate (Int.toNat u1) 100000);let u4:=A.nat (nxS m 0 1);bB (A.not (A.eq (ZaI m g0 g1) 0)) (F (AV.tup [AV.int .i64 0,AV.int .i64 (ZaI m g0 g1)]) none) (rB [A.inR .i64 (A.add u1 1),Zac (Nat.blt u4 u3) true,Zac (A.le 0 (nxS m 0 1)) (Nat.blt u4 u3),A.inR .i64 u0,Nat.blt 1 u2,Nat.blt 0 u2,Nat.beq u2 2,Nat.blt 0 (A.len [0,0]),decide (Zi9 m g0 g1 0 1=true),decide (ZCD u1=true),List.all [AV.int .i64 100000] fun x=>AV.bx x&&Nat.beq (Zad A x) 1,Zac (Zac (A.le 0 m) (Nat.blt (A.nat m) 64)) (A.inR .i64 u1)] (K (Zm1 m g0 g1 u1 (A.add u1 1) (A.set (List.replicate (Int.toNat u1) 100000) u4 u0) 0 100000)))
theorem ZMJ{A:Ar}{K:KT}{F:FT}{M:MT}{m g0 g1:Int} :Zah A tab N6 21 K F M (.run 18 (.tf (.run 7 (.fn)) (.run 76 (.hd)))) (ZQF m g0 g1) []=ZDH A K F m g0 g1:=by kernel_rfl
def ZhA(A:Ar)(K:KT)(F:FT)(m g0 g1 n0 n1:Int)(l2:zI)(n3 n4:Int):Prop:=bB (A.lt n3 n1) (K (ZlS m g0 g1 n0 n1 n3 n4 1 l2)) (F (AV.tup [AV.int .i64 n4,AV.int .i64 0]) none)
theorem Zl5{A:Ar}{K:KT}{F:FT}{M:MT}{m g0 g1 n0 n1:Int}{l2:zI}{n3 n4:Int} :Zah A tab N6 21 K F M (.run 6 (.tf (.run 10 (.hd)) (.run 8 (.fn)))) (Zgc m g0 g1 n0 n1 l2 n3 n4) (Zej m g0 g1 n0 n1 l2 n3 n4)=ZhA A K F m g0 g1 n0 n1 l2 n3 n4:=by kernel_rfl
def ZgZ(A:Ar)(K:KT)(F:FT)(m g0 g1 n0 n1 n3 n5 n6:Int)(l7:zI):Prop:=bB (A.lt n6 n0) (K (ZgR m g0 g1 n0 n1 n3 n6 n5 0 l7)) (rB [A.inR .i64 (A.add n3 1)] (K (Zm1 m g0 g1 n0 n1 l7 (A.add n3 1) n5)))
theorem Zmd{A:Ar}{K:KT}{F:FT}{M:MT}{m g0 g1 n0 n1 n3 n5 n6:Int}{l7:zI} :Zah A tab N6 21 K F M (.run 8 (.tf (.run 10 (.hd)) (.run 8 (.hd)))) (Zi7 m g0 g1 n0 n1 n3 n5 n6 l7) (Zg2 m g0 g1 n0 n1 n3 n5 n6 l7)=ZgZ A K F m g0 g1 n0 n1 n3 n5 n6 l7:=by kernel_rfl
def Zew(A:Ar)(K:KT)(F:FT)(m g0 g1 n0 n1 n3 n6 n8 n9:Int)(l10:zI):Prop:=let u5:=A.nat n6;let u2:=A.add (A.nth [oS m g0 n6 n9,oS m g1 n6 n9] 0) (A.nth [oS m g0 n6 n9,oS m g1 n6 n9] 1);let u0:=A.add (A.nth l10 u5) u2;let u1:=A.nat (nxS m n6 n9);let u3:=A.len [oS m g0 n6 n9,oS m g1 n6 n9];let u4:=A.len l10;let u6:=A.add n9 1;bB (A.lt n9 2) (rB [A.inR .i64 u2,Nat.blt 1 u3,Nat.blt 0 u3,Nat.beq u3 2,Nat.blt 0 (A.len [0,0]),decide (Zi9 m g0 g1 n6 n9=true)] (bB (A.eq (nxS m n6 n9) 0) (rB [A.inR .i64 u6,A.inR .i64 u0,Zac (Nat.blt u5 u4) true,Zac (A.le 0 n6) (Nat.blt u5 u4)] (K (ZgR m g0 g1 n0 n1 n3 n6 (A.min n8 u0) u6 l10))) (rB [A.inR .i64 u6,Zac (Nat.blt u1 u4) true,Zac (A.le 0 (nxS m n6 n9)) (Nat.blt u1 u4),A.inR .i64 u0,Zac (Nat.blt u5 u4) true,Zac (A.le 0 n6) (Nat.blt u5 u4),Zac (Nat.blt u1 u4) true,Zac (A.le 0 (nxS m n6 n9)) (Nat.blt u1 u4)] (K (ZgR m g0 g1 n0 n1 n3 n6 n8 u6 (A.set l10 u1 (A.min (A.nth l10 u1) u0))))))) (rB [A.inR .i64 (A.add n6 1)] (K (ZlS m g0 g1 n0 n1 n3 n8 (A.add n6 1) l10)))
theorem Znl{A:Ar}{K:KT}{F:FT}{M:MT}{m g0 g1 n0 n1 n3 n6 n8 n9:Int}{l10:zI} :Zah A tab N6 21 K F M (.run 6 (.tf (.run 51 (.tf (.run 20 (.hd)) (.run 9 (.hd)))) (.run 9 (.hd)))) (ZfA m g0 g1 n0 n1 n3 n6 n8 n9 l10) (ZeV m g0 g1 n0 n1 n3 n6 n8 n9 l10)=Zew A K F m g0 g1 n0 n1 n3 n6 n8 n9 l10:=by kernel_rfl
end Go.Proofs.YtjhldefnjghcdaaGreat
namespace Go.Proofs.YtjhldefnjghcdaaGreat
theorem ZrT{m p q:Int}(hv:ZaI m p q=0){s b:Int}(hs:0≤s∧s<stN m)(hb:b=0∨b=1):Zi9 m p q s b=true∧0≤nxS m s b∧nxS m s b<stN m:=by
 have hm:=(Zan hv).1
 obtain⟨r0,r1,r2,r3,r4⟩:=Zxf (m:=m) (s:=s) (b:=b) hm hs hb
 exact⟨decide_eq_true ⟨hv,hs.1,hs.2,hb⟩,r2,r3⟩
def Zqi(m p q:Int):Int→zI→zI
 |_,[]=>[]
 |s,b::bs=>oS m p s b::oS m q s b::Zqi m p q (nxS m s b) bs
def Zb3(m p q:Int)(bs:zI):zI:=Zqi m p q 0 (bs++List.replicate m.toNat 0)
theorem ZsM(m p q:Int):∀(bs:zI) (s:Int),(Zqi m p q s bs).length=2*bs.length
 |[],_=>rfl
 |b::bs,s=>by simp only[Zqi,List.length_cons,ZsM m p q bs];omega
theorem Zeq(m p q:Int)(bs:zI):(Zb3 m p q bs).length=2*(bs.length+m.toNat):=by
 unfold Zb3;rw[ZsM,List.length_append,List.length_replicate]
theorem ZbU(m p q:Int):∀(bs:zI) (s:Int),Zas (Zqi m p q s bs)=true
 |[],_=>rfl
 |b::bs,s=>by
  have h:=ZbU m p q bs (nxS m s b)
  unfold Zas at h⊢
  simp only[Zqi,List.all_cons,h,Bool.and_true,Bool.and_eq_true,decide_eq_true_eq]
  exact⟨ZdC m p s b,ZdC m q s b⟩
theorem ZbG{w:zI}(h:Zas w=true)(j:Nat):w.getD j 0=0∨w.getD j 0=1:=by
 by_cases hj:j<w.length
 ·exact of_decide_eq_true (List.all_eq_true.1 h _ (ZbC hj))
 ·rw[List.getD_eq_getElem?_getD,List.getElem?_eq_none (by omega)];exact .inl rfl
theorem Zdv{a b:zI}(ha:Zas a=true)(hb:Zas b=true):Zas (a++b)=true:=by
 unfold Zas at *;rw[List.all_append,ha,hb];rfl
theorem Zi3(n:Nat):Zas (List.replicate n 0)=true:=List.all_eq_true.2 fun x hx=>by rw[(List.mem_replicate.1 hx).2];rfl
def ZxD(so:zI):Nat→zI→Int
 |_,[]=>0
 |i,x::l=>coI x (so.getD i 0)+ZxD so (i+1) l
section
variable {C:Ctx}(hC:C.P=Tryz.prog)
include hC
end
theorem Zcm{x:Int}{l:zI}(h:Zaj (x::l)=0):x=0∧Zaj l=0:=by
 rw[Zaj]at h
 split at h
 ·exact⟨by assumption,h⟩
 ·contradiction
theorem ZuX{m:Int}(hm:m=1∨m=2∨m=3):0<stN m:=by
 have:=ZmA (m:=m) (by omega);omega
section
variable (m p q:Int)
def wt(s b:Int):Int:=oS m p s b+oS m q s b
def rx(s:Nat)(b:Int)(x:Int×zI):Int×zI:=if nxS m s b=0 then(min x.1 (x.2.getD s 0+wt m p q s b),x.2)else(x.1,x.2.set (nxS m s b).toNat (min (x.2.getD (nxS m s b).toNat 0) (x.2.getD s 0+wt m p q s b)))
def rxR:Nat→Nat→Int×zI→Int×zI
 |0,_,x=>x
 |k+1,s,x=>rxR k (s+1) (rx m p q s 1 (rx m p q s 0 x))
def rxN:Nat→Int×zI→Int×zI
 |0,x=>x
 |n+1,x=>rxN n (rxR m p q (stS m-1) 1 x)
def frP:Int×zI:=rxN m p q (stS m+1) (100000,(List.replicate (stS m) 100000).set (nxS m 0 1).toNat (wt m p q 0 1))
def frI:Int:=if ZaI m p q=0 then(frP m p q).1 else 0
end
structure OkX (m:Int) (x:Int×zI):Prop where
 b:0≤x.1∧x.1≤100000
 l:x.2.length=stS m
 r:∀j,0≤x.2.getD j 0∧x.2.getD j 0≤100000
theorem Zvz(m p q s b:Int):0≤wt m p q s b∧wt m p q s b≤2:=by
 have h1:=ZdC m p s b
 have h2:=ZdC m q s b
 unfold wt;omega
theorem Zxy{m p q:Int}(s:Nat)(b:Int){x:Int×zI}(h:OkX m x):OkX m (rx m p q s b x):=by
 have h1:=h.b
 have h2:=h.r s
 have h3:=h.r (nxS m s b).toNat
 have h4:=Zvz m p q s b
 unfold rx
 split
 ·exact⟨by simp only;omega,h.l,h.r⟩
 ·refine⟨h.b,by simp[h.l],fun j=>?_⟩
  simp only
  rw[List.getD_eq_getElem?_getD,List.getElem?_set]
  split
  ·split
   ·simp only[Option.getD_some];omega
   ·simp
  ·rw[←List.getD_eq_getElem?_getD];exact h.r j
theorem ZAh{m p q:Int} :∀(k s:Nat) {x:Int×zI},OkX m x→OkX m (rxR m p q k s x)
 |0,_,_,h=>h
 |k+1,s,_,h=>ZAh k (s+1) (Zxy s 1 (Zxy s 0 h))
section
variable {C:Ctx}(hC:C.P=Tryz.prog)(m p q:Int)(hv:ZaI m p q=0)
include hC hv
theorem D2(n0 n1 n3:Int)(s:Nat)(hs:s<stS m)(b:Int)(hb:b=0∨b=1)(x:Int×zI)(hx:OkX m x)(r:AV)
 (hn:Ev C (ZfA m p q n0 n1 n3 s (rx m p q s b x).1 (b+1) (rx m p q s b x).2) (ZeV m p q n0 n1 n3 s (rx m p q s b x).1 (b+1) (rx m p q s b x).2) (ZaD 21 r none)):
 Ev C (ZfA m p q n0 n1 n3 s x.1 b x.2) (ZeV m p q n0 n1 n3 s x.1 b x.2) (ZaD 21 r none):=by
 have hm:=(Zan hv).1
 have h2:=Zbe hm
 obtain⟨s1,s2,s3⟩:=ZrT hv (s:=s) (b:=b) (by omega) hb
 have hl:=hx.l
 have hr:=hx.r s
 have hr2:=hx.r (nxS m s b).toNat
 have hw:=Zvz m p q s b
 have hxb:=hx.b
 have o1:=ZdC m p s b
 have o2:=ZdC m q s b
 obtain⟨e,l⟩:=x
 simp only at hl hr hr2 hxb
 have s3':(nxS m s b).toNat<l.length:=by omega
 have hsl:s<l.length:=by omega
 unfold wt at hw
 unfold rx wt at hn
 refine tgo hC ZoV Znl ?_
 by_cases h0:nxS m s b=0
 ·rw[if_pos h0]at hn
  rcases hb with rfl |rfl<;>
  ·simp[-List.getD_eq_getElem?_getD,List.getD_cons_zero,List.getD_cons_succ,Zew,s1,h0,hsl]at hn⊢
   refine⟨?_,?_,hn⟩<;>omega
 ·rw[if_neg h0]at hn
  rcases hb with rfl |rfl<;>
  ·simp[-List.getD_eq_getElem?_getD,List.getD_cons_zero,List.getD_cons_succ,Zew,s1,h0,hsl,s2,s3']at hn⊢
   refine⟨?_,?_,hn⟩<;>omega
theorem D1(n1 n3:Int)(hn3:0≤n3∧n3≤1000)(r:AV):∀(k s:Nat) (x:Int×zI),s+k=stS m→OkX m x→
 Ev C (Zgc m p q (stN m) n1 (rxR m p q k s x).2 (n3+1) (rxR m p q k s x).1) (Zej m p q (stN m) n1 (rxR m p q k s x).2 (n3+1) (rxR m p q k s x).1) (ZaD 21 r none)→
 Ev C (Zi7 m p q (stN m) n1 n3 x.1 s x.2) (Zg2 m p q (stN m) n1 n3 x.1 s x.2) (ZaD 21 r none):=by
 have hm:=(Zan hv).1
 have h2:=Zbe hm
 intro k
 induction k with
 |zero=>
  intro s x hs hx hn
  refine tgo hC ZoV Zmd ?_
  simp[ZgZ,rxR,show ¬(s:Int)<stN m by omega]at hn⊢
  exact⟨by omega,hn⟩
 |succ k ih=>
  intro s x hs hx hn
  refine tgo hC ZoV Zmd ?_
  have i:=ih (s+1) _ (by omega) (Zxy s 1 (Zxy s 0 hx)) hn
  simp[ZgZ,show(s:Int)<stN m by omega]at i⊢
  refine D2 hC m p q hv _ _ _ s (by omega) 0 (Or.inl rfl) x hx r ?_
  refine D2 hC m p q hv _ _ _ s (by omega) 1 (Or.inr rfl) _ (Zxy s 0 hx) r ?_
  refine tgo hC ZoV Znl ?_
  simp[Zew]
  exact⟨by omega,i⟩
theorem D0:∀(k:Nat) (t:Int) (x:Int×zI),t+k=stN m+1→0≤t→OkX m x→
 Ev C (Zgc m p q (stN m) (stN m+1) x.2 t x.1) (Zej m p q (stN m) (stN m+1) x.2 t x.1) (ZaD 21 (.tup [.int .i64 (rxN m p q k x).1, .int .i64 0]) none):=by
 have hm:=(Zan hv).1
 have h2:=Zbe hm
 intro k
 induction k with
 |zero=>
  intro t x ht h0 hx
  refine tgo hC ZoV Zl5 ?_
  simp[ZhA,rxN,show ¬t<stN m+1 by omega]
 |succ k ih=>
  intro t x ht h0 hx
  refine tgo hC ZoV Zl5 ?_
  have i:=D1 hC m p q hv (stN m+1) t ⟨h0,by omega⟩ _ (stS m-1) 1 x (by omega) hx (ih (t+1) _ (by omega) (by omega) (ZAh _ _ hx))
  simp[ZhA,rxN,show t<stN m+1 by omega]at i⊢
  exact i
end
theorem ZKH{m p q:Int} :OkX m (100000,(List.replicate (stS m) 100000).set (nxS m 0 1).toNat (wt m p q 0 1)):=by
 refine⟨by simp,by simp,fun j=>?_⟩
 have hw:=Zvz m p q 0 1
 simp only
 rw[List.getD_eq_getElem?_getD,List.getElem?_set]
 split
 ·split
  ·simp only[Option.getD_some];omega
  ·simp
 ·rw[List.getElem?_replicate];split<;>simp
theorem ZwC(m p q:Int):ZaK Tryz.prog 21 [.agg (.gen [.int .i64 m, .int .i64 p, .int .i64 q])] (.tup [.int .i64 (frI m p q), .int .i64 (ZaI m p q)]) none:=by
 refine start (ZDo m p q) fun C hC=>tgo hC ZoV ZMJ ?_
 by_cases hv:ZaI m p q=0
 ·have hm:=(Zan hv).1
  have h2:=Zbe hm
  have i:=D0 hC m p q hv (stS m+1) 0 _ (by omega) (by omega) (ZKH (m:=m) (p:=p) (q:=q))
  obtain⟨s1,s2,s3⟩:=ZrT hv (s:=0) (b:=1) ⟨by omega,ZuX hm⟩ (Or.inr rfl)
  have hst:ZCD (stN m)=true:=decide_eq_true (by omega)
  have o1:=ZdC m p 0 1
  have o2:=ZdC m q 0 1
  have e2:(stN m).toNat=stS m:=rfl
  have s3':(nxS m 0 1).toNat<stS m:=by omega
  unfold frI frP
  unfold wt at i⊢
  simp[ZDH,hv,s1,AV.bx,Zad]at i⊢
  simp only[show ((2:Int)^m.toNat)=stN m from rfl,hst,e2]
  refine⟨?_,i⟩
  and_intros<;>first |omega |trivial
 ·simp[ZDH,hv,frI]
def k32:Ctr:=⟨21,0,fun _ a=>match a with |[.agg (.gen [.int .i64 m, .int .i64 p, .int .i64 q])]=>some (true, .tup [.int .i64 (frI m p q), .int .i64 (ZaI m p q)],none) |_=>none⟩
theorem ZJ7:k32.OK Tryz.prog:=fun pa args r fr h=>by
 simp only[k32]at h
 split at h
 ·cases h
  exact ZwC _ _ _
 ·cases h
def J9:List Ctr:=[k32]++J8
theorem ZLk:Zar Tryz.prog J9:=⟨ZJ7,ZNn⟩
end Go.Proofs.YtjhldefnjghcdaaGreat
namespace Go.Proofs.YtjhldefnjghcdaaGreat
@[simp] theorem ZO2 (l:List AV):std.lenA l=l.length:=rfl
@[simp] theorem ZO0 (l:List AV) (j:Nat):std.nthA l j=l.getD j .top:=rfl
def pR(ps:List AV)(t:Nat):zI:=AV.toIs (ps.getD t .top)
section
variable (m p q:Int)(so:zI)(ps:List AV)
end
structure OkP (m:Int) (so:zI) (ps:List AV):Prop where
 n:ps.length=Zab so+1
 l:∀t,t≤Zab so→(pR ps t).length=stS m
 r:∀t j,t≤Zab so→ -1000000≤(pR ps t).getD j 0∧(pR ps t).getD j 0≤1000000
theorem Znk{l:zI}{a b:Int}(h:ZaF l a b=0)(h0:a≤0∧0≤b)(j:Nat):a≤l.getD j 0∧l.getD j 0≤b:=by
 unfold ZaF at h
 split at h
 ·rename_i hall
  by_cases hk:j<l.length
  ·have:=List.all_eq_true.1 hall _ (ZbC (d:=0) hk)
   simpa[Zaf]using of_decide_eq_true this
  ·rw[List.getD_eq_getElem?_getD,List.getElem?_eq_none (by omega)];simpa using h0
 ·cases h
section
variable {C:Ctx}(hC:C.P=Tryz.prog)(m p q:Int)(so:zI)(ps:List AV)(h:OkC m p q so)(hp:OkP m so ps)
include hC h hp
end
section
variable {C:Ctx}(hC:C.P=Tryz.prog)(m p q:Int)(so:zI)(ps:List AV)(h:OkC m p q so)(hn:ps.length=Zab so+1)(hrl:∀t,(pR ps t).length≤1000000)
include hC h hn hrl
end
def rlB(ps:List AV):Prop:=∀t,(pR ps t).length≤1000000
section
variable {C:Ctx}(hC:C.P=Tryz.prog)(m p q:Int)(so:zI)(ps:List AV)(h:OkC m p q so)(hp:OkP m so ps)
include hC h hp
end
theorem Ze9{l:zI}{a b:Int}(h:∀j,j<l.length→Zaf (l.getD j 0) a b=true):ZaF l a b=0:=by
 unfold ZaF
 rw[if_pos]
 refine List.all_eq_true.2 fun x hx=>?_
 obtain⟨j,hj,rfl⟩:=List.mem_iff_getElem.1 hx
 have:=h j hj
 rwa[List.getD_eq_getElem?_getD,List.getElem?_eq_getElem hj]at this
section
variable {C:Ctx}(hC:C.P=Tryz.prog)(m p q:Int)(so:zI)(ps:List AV)(h:OkC m p q so)(hn:ps.length=Zab so+1)
include hC h hn
end
section
variable {C:Ctx}(hC:C.P=Tryz.prog)(ps:List AV)(hl:ps.length≤1000000)(hrl:rlB ps)
include hC hl hrl
end
def Ja:List Ctr:=J9
theorem ZML:Zar Tryz.prog Ja:=ZLk
end Go.Proofs.YtjhldefnjghcdaaGreat
namespace Go.Proofs.YtjhldefnjghcdaaGreat
def k14v:Ctr:=⟨12,0,fun _ a=>match a with |[.list (.ints .i64 xs)]=>some (decide (xs.length≤1000000), .list (.ints .i64 xs),Zk4) |_=>none⟩
theorem Zwz:k14v.OK Tryz.prog:=fun pa args r fr h=>by
 simp only[k14v]at h
 split at h
 ·simp only[Option.some.injEq,Prod.mk.injEq,decide_eq_true_eq]at h
  obtain⟨h0,rfl,rfl⟩:=h
  exact Zvu (ZpN _ h0) rfl rfl
 ·cases h
def Jb:List Ctr:=[k14v]++Ja
theorem ZME:Zar Tryz.prog Jb:=⟨Zwz,ZML⟩
end Go.Proofs.YtjhldefnjghcdaaGreat
namespace Go.Proofs.YtjhldefnjghcdaaGreat
def xt(a:Nat):Nat:=if a<8 then 2*a else(2*a) ^^^ 19
def Zav(a b:Nat):Nat:=(if b%2=1 then a else 0) ^^^ (if b/2%2=1 then xt a else 0) ^^^ (if b/4%2=1 then xt (xt a)else 0) ^^^ (if b/8%2=1 then xt (xt (xt a))else 0)
def Zbt:Nat→Nat
 |0=>1
 |n+1=>Zav (Zbt n) 2
def ZiJ(a:Nat):Nat:=((List.range 16).find? fun b=>Zav a b==1).getD 0
def ZxC(p:Nat→Nat→Bool):Bool:=(List.range 16).all fun a=>(List.range 16).all fun b=>p a b
theorem Zdk{p:Nat→Nat→Bool}(h:ZxC p=true){a b:Nat}(ha:a<16)(hb:b<16):p a b=true:=
 List.all_eq_true.1 (List.all_eq_true.1 h a (List.mem_range.2 ha)) b (List.mem_range.2 hb)
def ZMn(p:Nat→Nat→Nat→Bool):Bool:=(List.range 16).all fun a=>(List.range 16).all fun b=>(List.range 16).all fun c=>p a b c
theorem ZvM{p:Nat→Nat→Nat→Bool}(h:ZMn p=true){a b c:Nat}(ha:a<16)(hb:b<16)(hc:c<16):p a b c=true:=
 List.all_eq_true.1 (List.all_eq_true.1 (List.all_eq_true.1 h a (List.mem_range.2 ha)) b (List.mem_range.2 hb)) c (List.mem_range.2 hc)
theorem Zbx{a b:Nat}(ha:a<16)(hb:b<16):Zav a b<16:=by
 have h:ZxC (fun a b=>decide (Zav a b<16))=true:=by kernel_rfl
 exact of_decide_eq_true (Zdk h ha hb)
theorem Zbc{a b:Nat}(ha:a<16)(hb:b<16):Zav a b=Zav b a:=by
 have h:ZxC (fun a b=>decide (Zav a b=Zav b a))=true:=by kernel_rfl
 exact of_decide_eq_true (Zdk h ha hb)
theorem ZaH{a b c:Nat}(ha:a<16)(hb:b<16)(hc:c<16):Zav (Zav a b) c=Zav a (Zav b c):=by
 have h:ZMn (fun a b c=>decide (Zav (Zav a b) c=Zav a (Zav b c)))=true:=by kernel_rfl
 exact of_decide_eq_true (ZvM h ha hb hc)
theorem ZcB{a b c:Nat}(ha:a<16)(hb:b<16)(hc:c<16):Zav (a ^^^ b) c=Zav a c ^^^ Zav b c:=by
 have h:ZMn (fun a b c=>decide (Zav (a ^^^ b) c=Zav a c ^^^ Zav b c))=true:=by kernel_rfl
 exact of_decide_eq_true (ZvM h ha hb hc)
theorem Zb1{a:Nat}(ha:a<16):Zav a 0=0:=by
 have h:ZxC (fun a _=>decide (Zav a 0=0))=true:=by kernel_rfl
 exact of_decide_eq_true (Zdk h ha (b:=0) (by omega))
theorem ZiH{a:Nat}(ha:a<16):Zav a 1=a:=by
 have h:ZxC (fun a _=>decide (Zav a 1=a))=true:=by kernel_rfl
 exact of_decide_eq_true (Zdk h ha (b:=0) (by omega))
theorem ZbN{a b:Nat}(ha:a<16)(hb:b<16)(h0:Zav a b=0):a=0∨b=0:=by
 have h:ZxC (fun a b=>decide (Zav a b=0→a=0∨b=0))=true:=by kernel_rfl
 exact of_decide_eq_true (Zdk h ha hb) h0
theorem ZyN{a:Nat}(ha:a<16)(h0:a≠0):ZiJ a<16∧Zav a (ZiJ a)=1:=by
 have h:ZxC (fun a _=>decide (a≠0→ZiJ a<16∧Zav a (ZiJ a)=1))=true:=by kernel_rfl
 exact of_decide_eq_true (Zdk h ha (b:=0) (by omega)) h0
theorem Zb4{a b:Nat}(ha:a<16)(hb:b<16):a ^^^ b<16:=Nat.xor_lt_two_pow (n:=4) ha hb
theorem ZbV:∀n,Zbt n<16
 |0=>by decide
 |n+1=>Zbx (ZbV n) (by decide)
theorem ZNm:Zbt 15=1:=by decide
theorem ZvT:∀m n,Zbt (m+n)=Zav (Zbt m) (Zbt n)
 |m,0=>(ZiH (ZbV m)).symm
 |m,n+1=>by rw[←Nat.add_assoc,Zbt,ZvT m n,Zbt,ZaH (ZbV m) (ZbV n) (by decide)]
theorem ZAj(n:Nat):Zbt n=Zbt (n%15):=by
 have h:∀q r,Zbt (15*q+r)=Zbt r:=by
  intro q
  induction q with
  |zero=>intro r;rw[Nat.mul_zero,Nat.zero_add]
  |succ q ih=>
   intro r
   rw[show 15*(q+1)+r=15*q+(15+r) by omega,ih,ZvT,ZNm,Zbc (by decide) (ZbV r),ZiH (ZbV r)]
 conv=>lhs;rw[←Nat.div_add_mod n 15]
 exact h _ _
theorem ZtW(n:Nat):Zbt n≠0:=by
 have h:∀r,r<15→Zbt r≠0:=by decide
 rw[ZAj];exact h _ (Nat.mod_lt _ (by decide))
theorem Zs4{i j:Nat}(hi:i<15)(hj:j<15)(h:Zbt i=Zbt j):i=j:=by
 have k:∀i,i<15→∀j,j<15→Zbt i=Zbt j→i=j:=by decide
 exact k i hi j hj h
def gM(a b:Int):Int:=((Zav a.toNat b.toNat:Nat):Int)
def gI(a:Int):Int:=((ZiJ a.toNat:Nat):Int)
def elB(a:Int):Bool:=decide (0≤a∧a≤15)
end Go.Proofs.YtjhldefnjghcdaaGreat
namespace Go.Proofs.YtjhldefnjghcdaaGreat
theorem Zhb(m:Nat)(hm:m<2^32):(BitVec.ofInt 64 (m:Int)).toNat=m:=by
 rw[BitVec.ofInt_natCast,BitVec.toNat_ofNat];exact Nat.mod_eq_of_lt (by omega)
theorem ZeA{r k:Nat}(hr:r<2^32)(hk:k<2^32):std.bits .xor .i64 (r:Int) (k:Int)=((r ^^^ k:Nat):Int):=by
 show IntKind.i64.wrap ((BitVec.ofInt 64 (r:Int) ^^^ BitVec.ofInt 64 (k:Int)).toNat:Int)=_
 rw[BitVec.toNat_xor,Zhb r hr,Zhb k hk]
 have:r ^^^ k<2^32:=Nat.xor_lt_two_pow hr hk
 rw[IntKind.wrap_i64]
 omega
theorem Zpu{r:Nat}(hr:r<2^32):std.bits .and .i64 (r:Int) 1=((r%2:Nat):Int):=by
 show IntKind.i64.wrap ((BitVec.ofInt 64 (r:Int) &&& BitVec.ofInt 64 ((1:Nat):Int)).toNat:Int)=_
 rw[BitVec.toNat_and,Zhb r hr,Zhb 1 (by omega),Nat.and_one_is_mod,IntKind.wrap_i64]
 omega
def ZA7:Nat→Nat→Nat→Nat→Nat
 |0,_,_,o=>o
 |k+1,a,b,o=>if b=0 then o else ZA7 k (xt a) (b/2) (if b%2=1 then o ^^^ a else o)
theorem ZEb{a b:Nat}(ha:a<16)(hb:b<16):ZA7 4 a b 0=Zav a b:=by
 have h:ZxC (fun a b=>decide (ZA7 4 a b 0=Zav a b))=true:=by kernel_rfl
 exact of_decide_eq_true (Zdk h ha hb)
theorem ZLp{a:Nat}(ha:a<16):xt a<16:=by
 have h:ZxC (fun a _=>decide (xt a<16))=true:=by kernel_rfl
 exact of_decide_eq_true (Zdk h ha (b:=0) (by omega))
section
variable {C:Ctx}(hC:C.P=Tryz.prog)
include hC
theorem L71:∀(k a b o:Nat),a<16→b<2^k→k≤4→o<16→Ev C (ZjO a b o) (Zgf a b o) (ZaD 55 (.int .i64 ((ZA7 k a b o:Nat):Int)) none):=by
 intro k
 induction k with
 |zero=>
  intro a b o ha hb _ ho
  have:b=0:=by omega
  subst this
  refine tgo hC ZbE ZnA ?_
  simp[ZeB,ZA7]
 |succ k ih=>
  intro a b o ha hb hk ho
  refine tgo hC ZbE ZnA ?_
  by_cases h0:b=0
  ·subst h0;simp[ZeB,ZA7]
  ·have hb16:b<16:=by have:=Nat.pow_le_pow_right (show 0<2 by omega) hk;omega
   have hb2:b/2<2^k:=by rw[Nat.pow_succ]at hb;omega
   have e1:=Zpu (r:=b) (by omega)
   have e2:=ZeA (r:=o) (k:=a) (by omega) (by omega)
   have e3:=ZeA (r:=2*a) (k:=19) (by omega) (by omega)
   have e4:(b:Int).fdiv 2=((b/2:Nat):Int):=by rw[Int.fdiv_eq_ediv_of_nonneg _ (by omega)];rfl
   have e5:(a:Int)*2=((2*a:Nat):Int):=by omega
   have hx:=ZLp ha
   have ho2:(if b%2=1 then o ^^^ a else o)<16:=by split;exact Zb4 ho ha;exact ho
   have i:=ih (xt a) (b/2) (if b%2=1 then o ^^^ a else o) hx hb2 (by omega) ho2
   rw[ZA7,if_neg h0]
   have hp:(0:Int)<(b:Int):=by omega
   have e6:((19:Nat):Int)=19:=rfl
   rw[e6]at e3
   unfold xt at i⊢
   have e7:∀x:Nat,(((x:Nat):Int)=1)=(x=1):=fun x=>by simp;omega
   have e8:((16:Int)≤((2*a:Nat):Int))=¬(a<8):=by simp;omega
   simp only[ZeB,ZEB,ZQI,ZPM,ZaT,ZyR,ZMp,e1,e2,Int.toNat_one,Int.pow_one,e4,e5,e3,e7,e8,ZKw,ZCV,decide_eq_true hp,if_true]
   have hA:AllT [Zac (Zac (decide ((0:Int)≤1)) (Nat.blt 1 64)) (std.inR .i64 ((2*a:Nat):Int))]:=by simp;omega
   have hB:AllT [Zac (decide ((0:Int)≤1)) (Nat.blt 1 64)]:=by simp
   by_cases h1:b%2=1<;>by_cases h2:a<8<;>simp only[h1,h2,decide_true,decide_false,not_true,not_false,if_true,if_false,Bool.false_eq_true]at i⊢
   all_goals first |exact⟨hA,hB,i⟩ |(refine ⟨hA,?_⟩;rw[if_pos (by simp)];exact⟨hB,i⟩)
end
section
variable {C:Ctx}(hC:C.P=Tryz.prog)
include hC
end
theorem Zop{a:Int}(h:elB a=true):∃n:Nat,a=n∧n<16:=by
 have:=of_decide_eq_true h
 exact⟨a.toNat,by omega,by omega⟩
theorem Zxw(a b:Int)(ha:elB a=true)(hb:elB b=true):ZaK Tryz.prog 55 [.int .i64 a, .int .i64 b] (.int .i64 (gM a b)) none:=by
 obtain⟨m,rfl,hm⟩:=Zop ha
 obtain⟨n,rfl,hn⟩:=Zop hb
 refine start (ZCn m n) fun C hC=>tgo hC ZbE ZLx ?_
 have i:=L71 hC 4 m n 0 hm (by omega) (by omega) (by omega)
 rw[ZEb hm hn]at i
 simp[ZGc,gM]at i⊢
 exact i
def k71:Ctr:=⟨55,0,fun _ a=>match a with |[.int .i64 a, .int .i64 b]=>some (decide (elB a=true∧elB b=true), .int .i64 (gM a b),none) |_=>none⟩
theorem ZGv:k71.OK Tryz.prog:=fun pa args r fr h=>by
 simp only[k71]at h
 split at h
 ·simp only[Option.some.injEq,Prod.mk.injEq,decide_eq_true_eq]at h
  obtain⟨h0,rfl,rfl⟩:=h
  exact Zxw _ _ h0.1 h0.2
 ·cases h
def Ka:List Ctr:=[k71]++Jb
theorem ZqS:Zar Tryz.prog Ka:=⟨ZGv,ZME⟩
end Go.Proofs.YtjhldefnjghcdaaGreat
namespace Go.Proofs.YtjhldefnjghcdaaGreat
set_option maxRecDepth 100000
set_option linter.unusedVariables false
def ZIN(n:Int):AFrame:=vF 79 12 [vI 0 n] [.code a79.code] [.tmp 2]
def ZPT(n:Int):List AFrame:=[(ZIN n)]
theorem ZCx(n:Int):Zak tab 79 [AV.int .i64 n]=some (ZIN n):=rfl
def Zi6(n0 n1 n2:Int):List AFrame:=[vF 79 12 [vI 3 n1,vI 5 n0,vI 6 n2] (vC ZF1 ZMP) [.tmp 2]]
def Zg5(n0 n1 n2:Int):Zaa:=[]
abbrev Zlr(n0 n1 n2:Int):List AFrame×Zaa:=(Zi6 n0 n1 n2,Zg5 n0 n1 n2)
def ZHC(A:Ar)(K:KT)(F:FT)(n:Int):Prop:=rB [A.not (A.eq 15 0)] (K (Zlr (A.rem n 15) 1 0))
theorem ZMM{A:Ar}{K:KT}{F:FT}{M:MT}{n:Int} :Zah A tab Ka 79 K F M (.run 18 (.hd)) (ZPT n) []=ZHC A K F n:=by kernel_rfl
def Zhf(A:Ar)(K:KT)(F:FT)(n0 n1 n2:Int):Prop:=bB (A.lt n2 n0) (rB [A.inR .i64 (A.add n2 1),decide (elB n1=true∧elB 2=true)] (K (Zlr n0 (gM n1 2) (A.add n2 1)))) (F (AV.int .i64 n1) none)
theorem Zm2{A:Ar}{K:KT}{F:FT}{M:MT}{n0 n1 n2:Int} :Zah A tab Ka 79 K F M (.run 6 (.tf (.run 15 (.hd)) (.run 7 (.fn)))) (Zi6 n0 n1 n2) (Zg5 n0 n1 n2)=Zhf A K F n0 n1 n2:=by kernel_rfl
def ZG6(n:Int):AFrame:=vF 97 13 [vI 0 n] [.code a97.code] [.tmp 2]
def ZPA(n:Int):List AFrame:=[(ZG6 n)]
theorem ZBJ(n:Int):Zak tab 97 [AV.int .i64 n]=some (ZG6 n):=rfl
def ZkP(n n0:Int):List AFrame:=[vF 97 13 [vI 0 n,vI 3 n0] (vC ZFk ZMb) [.tmp 2]]
def ZhG(n n0:Int):Zaa:=[]
abbrev Zlo(n n0:Int):List AFrame×Zaa:=(ZkP n n0,ZhG n n0)
def ZHT(A:Ar)(K:KT)(F:FT)(n:Int):Prop:=K (Zlo n 1)
theorem ZN3{A:Ar}{K:KT}{F:FT}{M:MT}{n:Int} :Zah A tab Ka 97 K F M (.run 12 (.hd)) (ZPA n) []=ZHT A K F n:=by kernel_rfl
def ZeP(A:Ar)(K:KT)(F:FT)(n n0:Int):Prop:=bB (A.lt n0 16) (rB [decide (elB n=true∧elB n0=true)] (bB (A.eq (gM n n0) 1) (F (AV.int .i64 n0) none) (rB [A.inR .i64 (A.add n0 1)] (K (Zlo n (A.add n0 1)))))) (F (AV.int .i64 0) none)
theorem Zno{A:Ar}{K:KT}{F:FT}{M:MT}{n n0:Int} :Zah A tab Ka 97 K F M (.run 7 (.tf (.run 10 (.tf (.run 6 (.fn)) (.run 9 (.hd)))) (.run 6 (.fn)))) (ZkP n n0) (ZhG n n0)=ZeP A K F n n0:=by kernel_rfl
end Go.Proofs.YtjhldefnjghcdaaGreat
namespace Go.Proofs.YtjhldefnjghcdaaGreat
def gP(n:Int):Int:=((Zbt n.toNat:Nat):Int)
theorem Zbm{n:Nat}(h:n<16):elB n=true:=decide_eq_true (by omega)
theorem ZzN(a b:Nat):gM a b=((Zav a b:Nat):Int):=rfl
theorem ZFc(n:Nat):gM ((Zbt n:Nat):Int) 2=((Zbt (n+1):Nat):Int):=rfl
theorem ZBR{a b:Nat}(ha:a<16)(hb:b<16)(h1:Zav a b=1):ZiJ a=b:=by
 have h:ZxC (fun a b=>decide (Zav a b=1→ZiJ a=b))=true:=by kernel_rfl
 exact of_decide_eq_true (Zdk h ha hb) h1
theorem ZC5{a:Nat}(ha:a<16)(h:∀j,j<16→Zav a j≠1):ZiJ a=0:=by
 by_cases h0:a=0
 ·subst h0;rfl
 ·obtain⟨h1,h2⟩:=ZyN ha h0
  exact absurd h2 (h _ h1)
section
variable {C:Ctx}(hC:C.P=Tryz.prog)
include hC
theorem ZPI(n:Nat)(hn:n≤1000):∀(k j:Nat),j+k=n→Ev C (Zi6 n ((Zbt j:Nat):Int) j) (Zg5 n ((Zbt j:Nat):Int) j) (ZaD 79 (.int .i64 ((Zbt n:Nat):Int)) none):=by
 intro k
 induction k with
 |zero=>
  intro j hj
  refine tgo hC ZqS Zm2 ?_
  rw[show j=n by omega]
  simp[Zhf]
 |succ k ih=>
  intro j hj
  refine tgo hC ZqS Zm2 ?_
  have i:=ih (j+1) (by omega)
  have e1:=Zbm (ZbV j)
  have e2:elB 2=true:=rfl
  rw[←ZFc]at i
  simp[Zhf,show(j:Int)<n by omega,e1,e2]at i⊢
  exact⟨by omega,i⟩
theorem ZQS(a:Nat)(ha:a<16):∀(k b:Nat),b+k=16→(∀j,j<b→Zav a j≠1)→Ev C (ZkP a b) (ZhG a b) (ZaD 97 (.int .i64 ((ZiJ a:Nat):Int)) none):=by
 intro k
 induction k with
 |zero=>
  intro b hb hj
  refine tgo hC ZqS Zno ?_
  have e:b=16:=by omega
  rw[ZC5 ha (fun j h=>hj j (by omega))]
  subst e
  simp[ZeP]
 |succ k ih=>
  intro b hb hj
  refine tgo hC ZqS Zno ?_
  have e1:=Zbm ha
  have e2:=Zbm (n:=b) (by omega)
  by_cases h1:Zav a b=1
  ·rw[ZBR ha (by omega) h1]
   simp[ZeP,e1,e2,ZzN,h1,show(b:Int)<16 by omega]
  ·have i:=ih (b+1) (by omega) (fun j h=>by
    by_cases hjb:j=b
    ·subst hjb;exact h1
    ·exact hj j (by omega))
   have h1':¬((Zav a b:Nat):Int)=1:=by omega
   simp[ZeP,e1,e2,ZzN,h1',show(b:Int)<16 by omega]at i⊢
   exact⟨by omega,i⟩
end
theorem Zxh(n:Int)(h:0≤n):ZaK Tryz.prog 79 [.int .i64 n] (.int .i64 (gP n)) none:=by
 obtain⟨m,rfl⟩:=Int.eq_ofNat_of_zero_le h
 refine start (ZCx m) fun C hC=>tgo hC ZqS ZMM ?_
 have i:=ZPI hC (m%15) (by omega) (m%15) 0 (by omega)
 have e:((m:Nat):Int).tmod 15=((m%15:Nat):Int):=rfl
 have e2:gP m=((Zbt (m%15):Nat):Int):=by unfold gP;rw[Int.toNat_natCast,ZAj]
 rw[e2]
 simp only[ZHC,ZND,e]
 simp[Zbt]at i⊢
 exact i
theorem Zxz(a:Int)(h:elB a=true):ZaK Tryz.prog 97 [.int .i64 a] (.int .i64 (gI a)) none:=by
 obtain⟨m,rfl,hm⟩:=Zop h
 refine start (ZBJ m) fun C hC=>tgo hC ZqS ZN3 ?_
 have i:=ZQS hC m hm 15 1 (by omega) (fun j hj=>by rw[show j=0 by omega,Zb1 hm];decide)
 simp[ZHT,gI]at i⊢
 exact i
def k117:Ctr:=⟨79,0,fun _ a=>match a with |[.int .i64 n]=>some (decide (0≤n), .int .i64 (gP n),none) |_=>none⟩
theorem ZBH:k117.OK Tryz.prog:=fun pa args r fr h=>by
 simp only[k117]at h
 split at h
 ·simp only[Option.some.injEq,Prod.mk.injEq,decide_eq_true_eq]at h
  obtain⟨h0,rfl,rfl⟩:=h
  exact Zxh _ h0
 ·cases h
def k128:Ctr:=⟨97,0,fun _ a=>match a with |[.int .i64 a]=>some (decide (elB a=true), .int .i64 (gI a),none) |_=>none⟩
theorem ZCd:k128.OK Tryz.prog:=fun pa args r fr h=>by
 simp only[k128]at h
 split at h
 ·simp only[Option.some.injEq,Prod.mk.injEq,decide_eq_true_eq]at h
  obtain⟨h0,rfl,rfl⟩:=h
  exact Zxz _ h0
 ·cases h
def Kb:List Ctr:=[k117,k128]++Ka
theorem Zk6:Zar Tryz.prog Kb:=⟨ZBH,⟨ZCd,ZqS⟩⟩
end Go.Proofs.YtjhldefnjghcdaaGreat
namespace Go.Proofs.YtjhldefnjghcdaaGreat
set_option maxRecDepth 100000
set_option linter.unusedVariables false
def ZKW(n:Int):AFrame:=vF 98 6 [vI 0 n] [.code a98.code] [.tmp 2]
def ZP6(n:Int):List AFrame:=[(ZKW n)]
theorem ZA8(n:Int):Zak tab 98 [AV.int .i64 n]=some (ZKW n):=rfl
def ZI2(A:Ar)(K:KT)(F:FT)(n:Int):Prop:=rB [decide (0≤A.sub 14 n),A.inR .i64 (A.sub 14 n)] (F (AV.int .i64 (gP (A.sub 14 n))) none)
theorem ZMl{A:Ar}{K:KT}{F:FT}{M:MT}{n:Int} :Zah A tab Kb 98 K F M (.run 12 (.fn)) (ZP6 n) []=ZI2 A K F n:=by kernel_rfl
def ZJQ(a b:Int):AFrame:=vF 25 17 [vI 0 a,vI 1 b] [.code a25.code] [.tmp 4,.tmp 5]
def ZPz(a b:Int):List AFrame:=[(ZJQ a b)]
theorem ZDq(a b:Int):Zak tab 25 [AV.int .i64 a,AV.int .i64 b]=some (ZJQ a b):=rfl
def ZCL(A:Ar)(K:KT)(F:FT)(a b:Int):Prop:=rB [decide (List.length [a,b]≤1000000),List.all [AV.int .i64 a,AV.int .i64 b] fun x=>AV.bx x&&Nat.beq (Zad A x) 1] (bB (A.not (A.eq (ZaF [a,b] 0 15) 0)) (F (AV.tup [AV.int .i64 0,AV.int .i64 (ZaF [a,b] 0 15)]) none) (rB [decide (elB a=true∧elB b=true)] (F (AV.tup [AV.int .i64 (gM a b),AV.int .i64 0]) none)))
theorem ZMk{A:Ar}{K:KT}{F:FT}{M:MT}{a b:Int} :Zah A tab Kb 25 K F M (.run 19 (.tf (.run 7 (.fn)) (.run 10 (.fn)))) (ZPz a b) []=ZCL A K F a b:=by kernel_rfl
def ZHS(n:Int):AFrame:=vF 56 6 [vI 0 n] [.code a56.code] [.tmp 2]
def ZPP(n:Int):List AFrame:=[(ZHS n)]
theorem ZAZ(n:Int):Zak tab 56 [AV.int .i64 n]=some (ZHS n):=rfl
def ZKs(A:Ar)(K:KT)(F:FT)(n:Int):Prop:=F (AV.int .i64 (Zae (Zaf n 1 3) 2)) none
theorem ZNg{A:Ar}{K:KT}{F:FT}{M:MT}{n:Int} :Zah A tab Kb 56 K F M (.run 12 (.fn)) (ZPP n) []=ZKs A K F n:=by kernel_rfl
def ZHf(xs:zI)(n:Int):AFrame:=vF 32 14 [vL 0 xs,vI 1 n] [.code a32.code] [.tmp 4]
def ZPV(xs:zI)(n:Int):List AFrame:=[(ZHf xs n)]
theorem ZBA(xs:zI)(n:Int):Zak tab 32 [AV.list (.ints .i64 xs),AV.int .i64 n]=some (ZHf xs n):=rfl
def ZKJ(A:Ar)(K:KT)(F:FT)(xs:zI)(n:Int):Prop:=let u0:=A.int (A.len xs);rB [decide (List.length [Zae (A.eq u0 n) 10,ZaF xs 0 15]≤1000000),List.all [AV.int .i64 (Zae (A.eq u0 n) 10),AV.int .i64 (ZaF xs 0 15)] fun x=>AV.bx x&&Nat.beq (Zad A x) 1,decide (List.length xs≤1000000)] (F (AV.int .i64 (Zaj [Zae (A.eq u0 n) 10,ZaF xs 0 15])) none)
theorem ZNH{A:Ar}{K:KT}{F:FT}{M:MT}{xs:zI}{n:Int} :Zah A tab Kb 32 K F M (.run 19 (.fn)) (ZPV xs n) []=ZKJ A K F xs n:=by kernel_rfl
def ZGH(n:Int):AFrame:=vF 30 5 [vI 0 n] [.code a30.code] [.tmp 2]
def ZP5(n:Int):List AFrame:=[(ZGH n)]
theorem ZBM(n:Int):Zak tab 30 [AV.int .i64 n]=some (ZGH n):=rfl
def ZI5(A:Ar)(K:KT)(F:FT)(n:Int):Prop:=F (AV.bool (Zaf n 0 15)) none
theorem ZLy{A:Ar}{K:KT}{F:FT}{M:MT}{n:Int} :Zah A tab Kb 30 K F M (.run 11 (.fn)) (ZP5 n) []=ZI5 A K F n:=by kernel_rfl
def ZIV(n:Int):AFrame:=vF 27 6 [vI 0 n] [.code a27.code] [.tmp 2]
def ZP1(n:Int):List AFrame:=[(ZIV n)]
theorem ZAD(n:Int):Zak tab 27 [AV.int .i64 n]=some (ZIV n):=rfl
def ZJ3(A:Ar)(K:KT)(F:FT)(n:Int):Prop:=bB (A.not (Zaf n 1 3)) (F (AV.int .i64 2) none) (F (AV.int .i64 0) none)
theorem ZOc{A:Ar}{K:KT}{F:FT}{M:MT}{n:Int} :Zah A tab Kb 27 K F M (.run 11 (.tf (.run 5 (.fn)) (.run 6 (.fn)))) (ZP1 n) []=ZJ3 A K F n:=by kernel_rfl
def ZFn(w:zI)(j:Int):AFrame:=vF 96 24 [(0,AV.agg (.ints .i64 w)),vI 1 j] [.code a96.code] [.tmp 4]
def ZPu(w:zI)(j:Int):List AFrame:=[(ZFn w j)]
theorem ZDC(w:zI)(j:Int):Zak tab 96 [AV.agg (.ints .i64 w),AV.int .i64 j]=some (ZFn w j):=rfl
def ZkL(j:Int)(l0:zI)(n1 n2:Int):List AFrame:=[vF 96 24 [vI 1 j,vI 5 n1,(8,AV.agg (.ints .i64 l0)),vI 9 n2] (vC ZKf ZLP) [.tmp 4]]
def Zif(j:Int)(l0:zI)(n1 n2:Int):Zaa:=[]
abbrev Zl1(j:Int)(l0:zI)(n1 n2:Int):List AFrame×Zaa:=(ZkL j l0 n1 n2,Zif j l0 n1 n2)
def ZIl(A:Ar)(K:KT)(F:FT)(w:zI)(j:Int):Prop:=rB [Nat.ble 15 (A.len w),Nat.blt 0 (A.len w)] (K (Zl1 j (A.sub3 w 0 15) 0 0))
theorem ZMQ{A:Ar}{K:KT}{F:FT}{M:MT}{w:zI}{j:Int} :Zah A tab Kb 96 K F M (.run 18 (.hd)) (ZPu w j) []=ZIl A K F w j:=by kernel_rfl
def Zhq(A:Ar)(K:KT)(F:FT)(j:Int)(l0:zI)(n1 n2:Int):Prop:=let u0:=A.sub 14 n2;let u1:=A.mul j u0;let u2:=A.nth l0 (A.nat n2);bB (A.lt n2 15) (rB [A.inR .i64 (A.add n2 1),decide (elB u2=true∧elB (gP u1)=true),decide (0≤A.mul j u0),A.inR .i64 u1,A.inR .i64 u0,Zac (Zac (A.le 0 n2) (A.lt n2 (A.int 15))) (Nat.blt (A.nat n2) (A.len l0))] (K (Zl1 j l0 (A.bits .xor .i64 n1 (gM u2 (gP u1))) (A.add n2 1)))) (F (AV.int .i64 n1) none)
theorem ZmM{A:Ar}{K:KT}{F:FT}{M:MT}{j:Int}{l0:zI}{n1 n2:Int} :Zah A tab Kb 96 K F M (.run 6 (.tf (.run 29 (.hd)) (.run 7 (.fn)))) (ZkL j l0 n1 n2) (Zif j l0 n1 n2)=Zhq A K F j l0 n1 n2:=by kernel_rfl
end Go.Proofs.YtjhldefnjghcdaaGreat
namespace Go.Proofs.YtjhldefnjghcdaaGreat
def ZuF(j:Nat):Nat→List Nat→Nat
 |_,[]=>0
 |i,a::l=>Zav a (Zbt (j*(14-i))) ^^^ ZuF j (i+1) l
def wdN(w:zI):List Nat:=w.map Int.toNat
def syI(w:zI)(j:Nat):Int:=((ZuF j 0 (wdN w):Nat):Int)
def okw(w:zI):Bool:=decide (w.length=15)&&decide (ZaF w 0 15=0)
theorem okw_iff{w:zI} :okw w=true↔w.length=15∧ZaF w 0 15=0:=by
 unfold okw;rw[Bool.and_eq_true,decide_eq_true_eq,decide_eq_true_eq]
theorem Zfy{w:zI}(h:ZaF w 0 15=0)(i:Nat):elB (w.getD i 0)=true:=decide_eq_true (by have:=Znk h (by omega) i;omega)
theorem ZKr{w:zI}(h:ZaF w 0 15=0):∀x∈wdN w,x<16:=fun x hx=>by
 obtain⟨y,hy,rfl⟩:=List.mem_map.1 hx
 unfold ZaF at h
 split at h
 ·rename_i hall
  have:=of_decide_eq_true (List.all_eq_true.1 hall y hy)
  omega
 ·cases h
theorem ZwP(w:zI):(wdN w).length=w.length:=by simp[wdN]
theorem ZwV{w:zI}{i:Nat}(h:i<w.length):(wdN w).drop i=(w.getD i 0).toNat::(wdN w).drop (i+1):=by
 rw[List.drop_eq_getElem_cons (by rw[ZwP];exact h)]
 unfold wdN
 rw[List.getElem_map,List.getD_eq_getElem?_getD,List.getElem?_eq_getElem h];rfl
theorem Zvy(j:Nat):∀(l:List Nat) (i:Nat),(∀x∈l,x<16)→ZuF j i l<16
 |[],_,_=>by simp[ZuF]
 |a::l,i,h=>Zb4 (Zbx (h a List.mem_cons_self) (ZbV _)) (Zvy j l (i+1) fun x hx=>h x (List.mem_cons_of_mem _ hx))
theorem ZNZ(n:Int):elB (gP n)=true:=Zbm (ZbV _)
theorem ZE4{w:zI}(h:ZaF w 0 15=0)(j:Nat):elB (syI w j)=true:=Zbm (Zvy j _ 0 (ZKr h))
def ZDk(n:Int):Int:=gP (14-n)
theorem Zv0(n:Int)(h:0≤n∧n≤14):ZaK Tryz.prog 98 [.int .i64 n] (.int .i64 (ZDk n)) none:=
 start (ZA8 n) fun C hC=>tgo hC Zk6 ZMl (by simp[ZI2,ZDk];omega)
def prE(a b:Int):Int:=ZaF [a,b] 0 15
def prI(a b:Int):Int:=if prE a b=0 then gM a b else 0
theorem Zzt(a b:Int):ZaK Tryz.prog 25 [.int .i64 a, .int .i64 b] (.tup [.int .i64 (prI a b), .int .i64 (prE a b)]) none:=
 start (ZDq a b) fun C hC=>tgo hC Zk6 ZMk (by
  have e:ZaF [a,b] 0 15=prE a b:=rfl
  by_cases h:prE a b=0
  ·have h1:=Zfy h 0
   have h2:=Zfy h 1
   simp only[List.getD_cons_zero,List.getD_cons_succ]at h1 h2
   simp[ZCL,e,h,h1,h2,prI,AV.bx,Zad]
  ·simp[ZCL,e,h,prI,AV.bx,Zad])
def hfE(h:Int):Int:=Zae (Zaf h 1 3) 2
theorem ZwR(h:Int):ZaK Tryz.prog 56 [.int .i64 h] (.int .i64 (hfE h)) none:=
 start (ZAZ h) fun C hC=>tgo hC Zk6 ZNg (by simp[ZKs,hfE])
theorem Zvq(h:Int):ZaK Tryz.prog 27 [.int .i64 h] (.int .i64 (hfE h)) none:=
 start (ZAD h) fun C hC=>tgo hC Zk6 ZOc (by cases e:Zaf h 1 3<;>simp[ZJ3,hfE,Zae,e])
def elE(l:zI)(n:Int):Int:=Zaj [Zae (decide ((l.length:Int)=n)) 10,ZaF l 0 15]
theorem ZyU(l:zI)(n:Int)(hl:l.length≤1000000):ZaK Tryz.prog 32 [.list (.ints .i64 l), .int .i64 n] (.int .i64 (elE l n)) none:=
 start (ZBA l n) fun C hC=>tgo hC Zk6 ZNH (by simp[ZKJ,elE,hl,AV.bx,Zad])
theorem ZyH(n:Int):ZaK Tryz.prog 30 [.int .i64 n] (.bool (Zaf n 0 15)) none:=
 start (ZBM n) fun C hC=>tgo hC Zk6 ZLy (by simp[ZI5])
def syL(w:zI)(n:Nat):zI:=(List.range n).map fun i=>syI w (i+1)
theorem ZkD(w:zI)(n:Nat):(syL w n).length=n:=by simp[syL]
theorem Zzp(w:zI)(n:Nat):syL w (n+1)=syL w n++[syI w (n+1)]:=by unfold syL;rw[List.range_succ,List.map_append];rfl
section
variable {C:Ctx}(hC:C.P=Tryz.prog){w:zI}(hw:w.length=15)(hr:ZaF w 0 15=0)
include hC hw hr
theorem ZQx(j:Nat)(hj:j≤1000):∀(k i x:Nat),i+k=15→x<16→Ev C (ZkL j w x i) (Zif j w x i) (ZaD 96 (.int .i64 ((x ^^^ ZuF j i ((wdN w).drop i):Nat):Int)) none):=by
 intro k
 induction k with
 |zero=>
  intro i x hi hx
  refine tgo hC Zk6 ZmM ?_
  rw[List.drop_of_length_le (by rw[ZwP];omega),ZuF,Nat.xor_zero]
  have h15:i=15:=by omega
  subst h15
  simp[Zhq]
 |succ k ih=>
  intro i x hi hx
  refine tgo hC Zk6 ZmM ?_
  have e0:=Zfy hr i
  obtain⟨a,ha,ha16⟩:=Zop e0
  have m0:(j:Int)*(14-(i:Int))=((j*(14-i):Nat):Int):=by rw[Int.natCast_mul];congr 1;omega
  have m1:j*(14-i)≤14000:=by
   have:=Nat.mul_le_mul hj (show 14-i≤14 by omega);omega
  have b1:0≤(j:Int)*(14-(i:Int))∧(j:Int)*(14-(i:Int))≤14000:=by rw[m0];omega
  have e1:gM (w.getD i 0) (gP ((j:Int)*(14-(i:Int))))=((Zav a (Zbt (j*(14-i))):Nat):Int):=by rw[m0,ha];rfl
  have l1:=Zbx ha16 (ZbV (j*(14-i)))
  have e2:=ZeA (r:=x) (k:=Zav a (Zbt (j*(14-i)))) (by omega) (by omega)
  have i':=ih (i+1) (x ^^^ Zav a (Zbt (j*(14-i)))) (by omega) (Zb4 hx l1)
  rw[ZwV (by omega),ZuF,ha,Int.toNat_natCast,←Nat.xor_assoc]
  have e3:=ZNZ ((j:Int)*(14-(i:Int)))
  have hi15:(i:Int)<15:=by omega
  have hi2:i<15:=by omega
  simp only[Zhq,Zzc,Zk8,Zba,ZaT,Int.toNat_natCast,e1,e2,e3,e0]
  simp[hi15,hi2,hw]at i'⊢
  refine⟨?_,i'⟩
  exact⟨by omega,decide_eq_true b1.1,by omega,by omega⟩
end
def hfB(h:Int):Bool:=decide (1≤h∧h≤3)
theorem ZvJ(w:zI)(j:Int)(hw:okw w=true)(hj:0≤j∧j≤1000):ZaK Tryz.prog 96 [.agg (.ints .i64 w), .int .i64 j] (.int .i64 (syI w j.toNat)) none:=by
 obtain⟨w1,w2⟩:=okw_iff.1 hw
 obtain⟨n,rfl⟩:=Int.eq_ofNat_of_zero_le hj.1
 refine start (ZDC w n) fun C hC=>tgo hC Zk6 ZMQ ?_
 have i:=ZQx hC w1 w2 n (by omega) 15 0 0 (by omega) (by omega)
 have e:std.sub3 w 0 15=w:=by show(w.drop 0).take 15=w;rw[List.drop_zero,List.take_of_length_le (by omega)]
 rw[List.drop_zero,Nat.zero_xor]at i
 simp only[ZIl,e]
 simp[w1,syI]at i⊢
 exact i
def k129:Ctr:=⟨98,0,fun _ a=>match a with |[.int .i64 n]=>some (decide (0≤n∧n≤14), .int .i64 (ZDk n),none) |_=>none⟩
theorem ZBz:k129.OK Tryz.prog:=fun pa args r fr h=>by
 simp only[k129]at h
 split at h
 ·simp only[Option.some.injEq,Prod.mk.injEq,decide_eq_true_eq]at h
  obtain⟨h0,rfl,rfl⟩:=h
  exact Zv0 _ h0
 ·cases h
def k18:Ctr:=⟨25,0,fun _ a=>match a with |[.int .i64 a, .int .i64 b]=>some (true, .tup [.int .i64 (prI a b), .int .i64 (prE a b)],none) |_=>none⟩
theorem ZGI:k18.OK Tryz.prog:=fun pa args r fr h=>by
 simp only[k18]at h
 split at h
 ·cases h
  exact Zzt _ _
 ·cases h
def k73:Ctr:=⟨56,0,fun _ a=>match a with |[.int .i64 h]=>some (true, .int .i64 (hfE h),none) |_=>none⟩
theorem ZGa:k73.OK Tryz.prog:=fun pa args r fr h=>by
 simp only[k73]at h
 split at h
 ·cases h
  exact ZwR _
 ·cases h
def k23:Ctr:=⟨27,0,fun _ a=>match a with |[.int .i64 h]=>some (true, .int .i64 (hfE h),none) |_=>none⟩
theorem ZHi:k23.OK Tryz.prog:=fun pa args r fr h=>by
 simp only[k23]at h
 split at h
 ·cases h
  exact Zvq _
 ·cases h
def k74:Ctr:=⟨32,0,fun _ a=>match a with |[.list (.ints .i64 l), .int .i64 n]=>some (decide (l.length≤1000000), .int .i64 (elE l n),none) |_=>none⟩
theorem ZJn:k74.OK Tryz.prog:=fun pa args r fr h=>by
 simp only[k74]at h
 split at h
 ·simp only[Option.some.injEq,Prod.mk.injEq,decide_eq_true_eq]at h
  obtain⟨h0,rfl,rfl⟩:=h
  exact ZyU _ _ h0
 ·cases h
def k21:Ctr:=⟨30,0,fun _ a=>match a with |[.int .i64 n]=>some (true, .bool (Zaf n 0 15),none) |_=>none⟩
theorem ZKB:k21.OK Tryz.prog:=fun pa args r fr h=>by
 simp only[k21]at h
 split at h
 ·cases h
  exact ZyH _
 ·cases h
def k112:Ctr:=⟨96,0,fun _ a=>match a with |[.agg (.ints .i64 w), .int .i64 j]=>some (decide (okw w=true∧0≤j∧j≤1000), .int .i64 (syI w j.toNat),none) |_=>none⟩
theorem ZEl:k112.OK Tryz.prog:=fun pa args r fr h=>by
 simp only[k112]at h
 split at h
 ·simp only[Option.some.injEq,Prod.mk.injEq,decide_eq_true_eq]at h
  obtain⟨h0,rfl,rfl⟩:=h
  exact ZvJ _ _ h0.1 h0.2
 ·cases h
def Kc:List Ctr:=[k129,k18,k73,k23,k74,k21,k112]++Kb
theorem ZxS:Zar Tryz.prog Kc:=⟨ZBz,⟨ZGI,⟨ZGa,⟨ZHi,⟨ZJn,⟨ZKB,⟨ZEl,Zk6⟩⟩⟩⟩⟩⟩⟩
end Go.Proofs.YtjhldefnjghcdaaGreat
namespace Go.Proofs.YtjhldefnjghcdaaGreat
set_option maxRecDepth 100000
set_option linter.unusedVariables false
def ZKc(w:zI)(h:Int):AFrame:=vF 77 20 [(0,AV.agg (.ints .i64 w)),vI 1 h] [.code a77.code] [.tmp 4]
def ZRa(w:zI)(h:Int):List AFrame:=[(ZKc w h)]
theorem ZDE(w:zI)(h:Int):Zak tab 77 [AV.agg (.ints .i64 w),AV.int .i64 h]=some (ZKc w h):=rfl
def ZjH(w:zI)(h:Int)(A:Ar)(n0:Int)(l1:zI):List AFrame:=[vF 77 20 [vI 1 h,vP 2 77003,vR 5 77019,vI 6 n0] (vC ZGj ZM7) [.tmp 4]]
def Zii(w:zI)(h:Int)(A:Ar)(n0:Int)(l1:zI):Zaa:=[(77003,{ base:=0,blks:=[Blk.row 76 (A.len w) (Row.gen [.agg (.ints .i64 w)])] }),vK 77019 l1]
abbrev Zlf(w:zI)(h:Int)(A:Ar)(n0:Int)(l1:zI):List AFrame×Zaa:=(ZjH w h A n0 l1,Zii w h A n0 l1)
def ZJt(A:Ar)(K:KT)(F:FT)(w:zI)(h:Int):Prop:=rB [Nat.blt 0 (A.len w)] (K (Zlf w h A 1 []))
theorem ZNK{A:Ar}{K:KT}{F:FT}{M:MT}{w:zI}{h:Int} :Zah A tab Kc 77 K F M (.run 18 (.hd)) (ZRa w h) []=ZJt A K F w h:=by kernel_rfl
def ZhC(A:Ar)(K:KT)(F:FT)(w:zI)(h n0:Int)(l1:zI):Prop:=let u0:=A.sub3 w 0 15;rB [A.inR .i64 (A.mul 2 h)] (bB (A.le n0 (A.mul 2 h)) (rB [A.inR .i64 (A.add n0 1),Nat.ble (A.len l1+A.len [syI u0 (Int.toNat n0)]) 4294967296,List.all [AV.int .i64 (syI u0 (Int.toNat n0))] fun x=>AV.bx x&&Nat.beq (Zad A x) 1,decide (okw u0=true∧0≤n0∧n0≤1000),Nat.ble 15 (A.len w)] (K (Zlf w h A (A.add n0 1) (A.app l1 [syI u0 (Int.toNat n0)])))) (F (AV.row 0 0) (some { e:=3,sz:=1,r:=.ints .i64 l1 })))
theorem Zml{A:Ar}{K:KT}{F:FT}{M:MT}{w:zI}{h n0:Int}{l1:zI} :Zah A tab Kc 77 K F M (.run 9 (.tf (.run 20 (.hd)) (.run 7 (.fn)))) (ZjH w h A n0 l1) (Zii w h A n0 l1)=ZhC A K F w h n0 l1:=by kernel_rfl
end Go.Proofs.YtjhldefnjghcdaaGreat
namespace Go.Proofs.YtjhldefnjghcdaaGreat
theorem Zf5{w:zI}(h:w.length=15):std.sub3 w 0 15=w:=by show(w.drop 0).take 15=w;rw[List.drop_zero,List.take_of_length_le (by omega)]
section
variable {C:Ctx}(hC:C.P=Tryz.prog){w:zI}(hw:okw w=true)
include hC hw
theorem S75(h:Int)(hh:1≤h∧h≤3):∀(k j:Nat),(j:Int)+k=2*h→Ev C (ZjH w h std ((j+1:Nat):Int) (syL w j)) (Zii w h std ((j+1:Nat):Int) (syL w j)) (ZaD 77 (.row 0 0) (some ⟨3,1, .ints .i64 (syL w (2*h.toNat))⟩)):=by
 obtain⟨w1,w2⟩:=okw_iff.1 hw
 intro k
 induction k with
 |zero=>
  intro j hj
  refine tgo hC ZxS Zml ?_
  rw[show 2*h.toNat=j by omega]
  simp[ZhC,show ¬(j:Int)+1≤2*h by omega]
  omega
 |succ k ih=>
  intro j hj
  refine tgo hC ZxS Zml ?_
  have i:=ih (j+1) (by omega)
  have e:=Zf5 w1
  have l:=ZkD w j
  rw[Zzp]at i
  simp only[ZhC,e]
  simp[hw,w1,l,show(j:Int)+1≤2*h by omega,AV.bx,Zad]at i⊢
  exact⟨by omega,by omega,i⟩
end
theorem ZxR(w:zI)(h:Int)(hw:okw w=true)(hh:hfB h=true):ZaK Tryz.prog 77 [.agg (.ints .i64 w), .int .i64 h] (.row 0 0) (some ⟨3,1, .ints .i64 (syL w (2*h.toNat))⟩):=by
 obtain⟨w1,w2⟩:=okw_iff.1 hw
 have hh:=of_decide_eq_true hh
 refine start (ZDE w h) fun C hC=>tgo hC ZxS ZNK ?_
 have i:=S75 hC hw h hh (2*h.toNat) 0 (by omega)
 simp[ZJt,syL,w1]at i⊢
 exact i
theorem ZGn{h:Int}(e:hfE h=0):1≤h∧h≤3:=by
 unfold hfE Zae at e
 split at e
 ·rename_i h1;exact of_decide_eq_true h1
 ·cases e
theorem ZAr{l:zI}{n:Int}(e:elE l n=0):(l.length:Int)=n∧ZaF l 0 15=0:=by
 obtain⟨a,b⟩:=Zcm e
 obtain⟨b,_⟩:=Zcm b
 refine⟨?_,b⟩
 by_cases h:(l.length:Int)=n
 ·exact h
 ·simp[Zae,h]at a
def isW(h:Int)(w:zI):Bool:=(syL w (2*h.toNat)).all fun x=>decide (x=0)
section
variable {C:Ctx}(hC:C.P=Tryz.prog)
include hC
end
def erP:Int→zI→Int
 |_,[]=>0
 |p,x::l=>if Zaf x 0 14=true then(if p<x then erP x l else 9)else 6
def erE(h:Int)(e:zI):Int:=if 2*h<(e.length:Int)then 8 else erP (-1) e
section
variable {C:Ctx}(hC:C.P=Tryz.prog)
include hC
end
def k75:Ctr:=⟨77,0,fun _ a=>match a with |[.agg (.ints .i64 w), .int .i64 h]=>some (decide (okw w=true∧hfB h=true), .row 0 0,some ⟨3,1, .ints .i64 (syL w (2*h.toNat))⟩) |_=>none⟩
theorem ZH3:k75.OK Tryz.prog:=fun pa args r fr h=>by
 simp only[k75]at h
 split at h
 ·simp only[Option.some.injEq,Prod.mk.injEq,decide_eq_true_eq]at h
  obtain⟨h0,rfl,rfl⟩:=h
  exact ZxR _ _ h0.1 h0.2
 ·cases h
def Kd:List Ctr:=[k75]++Kc
theorem ZoP:Zar Tryz.prog Kd:=⟨ZH3,ZxS⟩
end Go.Proofs.YtjhldefnjghcdaaGreat
namespace Go.Proofs.YtjhldefnjghcdaaGreat
def Ke:List Ctr:=[k14]++Kd
theorem ZaN:Zar Tryz.prog Ke:=⟨ZzK,ZoP⟩
end Go.Proofs.YtjhldefnjghcdaaGreat
