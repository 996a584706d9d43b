/- Contracts as a list. No condition. -/
import Derived.Test.YtklbmkllepkjcaaP7
import Derived.KernelRfl
namespace Go.Proofs.Ytklbmkllepkjcaa
theorem ZCl{m p q:Int}(hv:ZaE m p q=0){s b:Int}(hs:0≤s∧s<stN m)(hb:b=0∨b=1):Zcb m p q s b=true∧0≤nxS m s b∧nxS m s b<stN m:=by
 have hm:=(Zaj hv).1
 obtain⟨r0,r1,r2,r3,r4⟩:=ZnZ (m:=m) (s:=s) (b:=b) hm hs hb
 exact⟨decide_eq_true ⟨hv,hs.1,hs.2,hb⟩,r2,r3⟩
def ZC3(m p q:Int):Int→List Int→List Int
 |_,[]=>[]
 |s,b::bs=>oS m p s b::oS m q s b::ZC3 m p q (nxS m s b) bs
def ZFr(m p q:Int)(bs:List Int):List Int:=ZC3 m p q 0 (bs++List.replicate m.toNat 0)
theorem ZsS{a b:List Int}(ha:ZeP a=true)(hb:ZeP b=true):ZeP (a++b)=true:=by
 unfold ZeP at *;rw[List.all_append,ha,hb];rfl
theorem Zud(n:Nat):ZeP (List.replicate n 0)=true:=List.all_eq_true.2 fun x hx=>by rw[(List.mem_replicate.1 hx).2];rfl
def Zyo(so:List Int):Nat→List Int→Int
 |_,[]=>0
 |i,x::l=>coI x (so.getD i 0)+Zyo so (i+1) l
section
variable {C:Ctx}(hC:C.P=Try.prog)
include hC
end
theorem Zk1{x:Int}{l:List Int}(h:Za5 (x::l)=0):x=0∧Za5 l=0:=by
 rw[Za5]at h
 split at h
 ·exact⟨by assumption,h⟩
 ·contradiction
theorem ZwP{m:Int}(hm:m=1∨m=2∨m=3):0<stN m:=by
 have:=Zgm (m:=m) (by omega);omega
section
variable (m p q:Int)
def wt(s b:Int):Int:=oS m p s b+oS m q s b
def rx(s:Nat)(b:Int)(x:Int×List Int):Int×List Int:=if nxS m s b=0 then(min x.1 (x.2.getD s 0+wt m p q s b),x.2)else(x.1,x.2.set (nxS m s b).toNat (min (x.2.getD (nxS m s b).toNat 0) (x.2.getD s 0+wt m p q s b)))
def rxR:Nat→Nat→Int×List Int→Int×List Int
 |0,_,x=>x
 |k+1,s,x=>rxR k (s+1) (rx m p q s 1 (rx m p q s 0 x))
def rxN:Nat→Int×List Int→Int×List Int
 |0,x=>x
 |n+1,x=>rxN n (rxR m p q (stS m-1) 1 x)
def frP:Int×List Int:=rxN m p q (stS m+1) (100000,(List.replicate (stS m) 100000).set (nxS m 0 1).toNat (wt m p q 0 1))
def frI:Int:=if ZaE m p q=0 then(frP m p q).1 else 0
end
structure OkX (m:Int) (x:Int×List Int):Prop where
 b:0≤x.1∧x.1≤100000
 l:x.2.length=stS m
 r:∀j,0≤x.2.getD j 0∧x.2.getD j 0≤100000
theorem ZwI(m p q s b:Int):0≤wt m p q s b∧wt m p q s b≤2:=by
 have h1:=Zcl m p s b
 have h2:=Zcl m q s b
 unfold wt;omega
theorem Zpk{m p q:Int}(s:Nat)(b:Int){x:Int×List Int}(h:OkX m x):OkX m (rx m p q s b x):=by
 have h1:=h.b
 have h2:=h.r s
 have h3:=h.r (nxS m s b).toNat
 have h4:=ZwI m p q s b
 unfold rx
 split
 ·exact⟨by simp only;omega,h.l,h.r⟩
 ·refine⟨h.b,by simp[h.l],fun j=>?_⟩
  simp only
  rw[List.getD_eq_getElem?_getD,List.getElem?_set]
  split
  ·split
   ·simp only[Option.getD_some];omega
   ·simp
  ·rw[←List.getD_eq_getElem?_getD];exact h.r j
theorem Zup{m p q:Int} :∀(k s:Nat) {x:Int×List Int},OkX m x→OkX m (rxR m p q k s x)
 |0,_,_,h=>h
 |k+1,s,_,h=>Zup k (s+1) (Zpk s 1 (Zpk s 0 h))
section
variable {C:Ctx}(hC:C.P=Try.prog)(m p q:Int)(hv:ZaE m p q=0)
include hC hv
theorem D2(n0 n1 n3:Int)(s:Nat)(hs:s<stS m)(b:Int)(hb:b=0∨b=1)(x:Int×List Int)(hx:OkX m x)(r:AV)
 (hn:Ev C (ZeI m p q n0 n1 n3 s (rx m p q s b x).1 (b+1) (rx m p q s b x).2) (Zdx m p q n0 n1 n3 s (rx m p q s b x).1 (b+1) (rx m p q s b x).2) (ZaX 32 r none)):
 Ev C (ZeI m p q n0 n1 n3 s x.1 b x.2) (Zdx m p q n0 n1 n3 s x.1 b x.2) (ZaX 32 r none):=by
 have hm:=(Zaj hv).1
 have h2:=ZaC hm
 obtain⟨s1,s2,s3⟩:=ZCl hv (s:=s) (b:=b) (by omega) hb
 have hl:=hx.l
 have hr:=hx.r s
 have hr2:=hx.r (nxS m s b).toNat
 have hw:=ZwI m p q s b
 have hxb:=hx.b
 have o1:=Zcl m p s b
 have o2:=Zcl m q s b
 obtain⟨e,l⟩:=x
 simp only at hl hr hr2 hxb
 have s3':(nxS m s b).toNat<l.length:=by omega
 have hsl:s<l.length:=by omega
 unfold wt at hw
 unfold rx wt at hn
 refine tgo hC ZcW Zih ?_
 by_cases h0:nxS m s b=0
 ·rw[if_pos h0]at hn
  rcases hb with rfl |rfl<;>
  ·simp[-List.getD_eq_getElem?_getD,List.getD_cons_zero,List.getD_cons_succ,Zdq,s1,h0,hsl]at hn⊢
   refine⟨?_,?_,hn⟩<;>omega
 ·rw[if_neg h0]at hn
  rcases hb with rfl |rfl<;>
  ·simp[-List.getD_eq_getElem?_getD,List.getD_cons_zero,List.getD_cons_succ,Zdq,s1,h0,hsl,s2,s3']at hn⊢
   refine⟨?_,?_,hn⟩<;>omega
theorem D1(n1 n3:Int)(hn3:0≤n3∧n3≤1000)(r:AV):∀(k s:Nat) (x:Int×List Int),s+k=stS m→OkX m x→
 Ev C (ZeL m p q (stN m) n1 (rxR m p q k s x).2 (n3+1) (rxR m p q k s x).1) (ZdD m p q (stN m) n1 (rxR m p q k s x).2 (n3+1) (rxR m p q k s x).1) (ZaX 32 r none)→
 Ev C (Zg0 m p q (stN m) n1 n3 x.1 s x.2) (ZfH m p q (stN m) n1 n3 x.1 s x.2) (ZaX 32 r none):=by
 have hm:=(Zaj hv).1
 have h2:=ZaC hm
 intro k
 induction k with
 |zero=>
  intro s x hs hx hn
  refine tgo hC ZcW Zjk ?_
  simp[ZfR,rxR,show ¬(s:Int)<stN m by omega]at hn⊢
  exact⟨by omega,hn⟩
 |succ k ih=>
  intro s x hs hx hn
  refine tgo hC ZcW Zjk ?_
  have i:=ih (s+1) _ (by omega) (Zpk s 1 (Zpk s 0 hx)) hn
  simp[ZfR,show(s:Int)<stN m by omega]at i⊢
  refine D2 hC m p q hv _ _ _ s (by omega) 0 (Or.inl rfl) x hx r ?_
  refine D2 hC m p q hv _ _ _ s (by omega) 1 (Or.inr rfl) _ (Zpk s 0 hx) r ?_
  refine tgo hC ZcW Zih ?_
  simp[Zdq]
  exact⟨by omega,i⟩
theorem D0:∀(k:Nat) (t:Int) (x:Int×List Int),t+k=stN m+1→0≤t→OkX m x→
 Ev C (ZeL m p q (stN m) (stN m+1) x.2 t x.1) (ZdD m p q (stN m) (stN m+1) x.2 t x.1) (ZaX 32 (.tup [.int .i64 (rxN m p q k x).1, .int .i64 0]) none):=by
 have hm:=(Zaj hv).1
 have h2:=ZaC hm
 intro k
 induction k with
 |zero=>
  intro t x ht h0 hx
  refine tgo hC ZcW Ziz ?_
  simp[Zgi,rxN,show ¬t<stN m+1 by omega]
 |succ k ih=>
  intro t x ht h0 hx
  refine tgo hC ZcW Ziz ?_
  have i:=D1 hC m p q hv (stN m+1) t ⟨h0,by omega⟩ _ (stS m-1) 1 x (by omega) hx (ih (t+1) _ (by omega) (by omega) (Zup _ _ hx))
  simp[Zgi,rxN,show t<stN m+1 by omega]at i⊢
  exact i
end
theorem ZBn{m p q:Int} :OkX m (100000,(List.replicate (stS m) 100000).set (nxS m 0 1).toNat (wt m p q 0 1)):=by
 refine⟨by simp,by simp,fun j=>?_⟩
 have hw:=ZwI m p q 0 1
 simp only
 rw[List.getD_eq_getElem?_getD,List.getElem?_set]
 split
 ·split
  ·simp only[Option.getD_some];omega
  ·simp
 ·rw[List.getElem?_replicate];split<;>simp
theorem Zqr(m p q:Int):Zai Try.prog 32 [.agg (.gen [.int .i64 m, .int .i64 p, .int .i64 q])] (.tup [.int .i64 (frI m p q), .int .i64 (ZaE m p q)]) none:=by
 refine start (Zv0 m p q) fun C hC=>tgo hC ZcW ZDl ?_
 by_cases hv:ZaE m p q=0
 ·have hm:=(Zaj hv).1
  have h2:=ZaC hm
  have i:=D0 hC m p q hv (stS m+1) 0 _ (by omega) (by omega) (ZBn (m:=m) (p:=p) (q:=q))
  obtain⟨s1,s2,s3⟩:=ZCl hv (s:=0) (b:=1) ⟨by omega,ZwP hm⟩ (Or.inr rfl)
  have hst:ZtZ (stN m)=true:=decide_eq_true (by omega)
  have o1:=Zcl m p 0 1
  have o2:=Zcl m q 0 1
  have e2:(stN m).toNat=stS m:=rfl
  have s3':(nxS m 0 1).toNat<stS m:=by omega
  unfold frI frP
  unfold wt at i⊢
  simp[ZvS,hv,s1,AV.bx,Zao]at i⊢
  simp only[show ((2:Int)^m.toNat)=stN m from rfl,hst,e2]
  refine⟨?_,i⟩
  and_intros<;>first |omega |trivial
 ·simp[ZvS,hv,frI]
def k32:Ctr:=⟨32,0,fun _ a=>match a with |[.agg (.gen [.int .i64 m, .int .i64 p, .int .i64 q])]=>some (true, .tup [.int .i64 (frI m p q), .int .i64 (ZaE m p q)],none) |_=>none⟩
theorem ZCz:k32.OK Try.prog:=fun pa args r fr h=>by
 simp only[k32]at h
 split at h
 ·cases h
  exact Zqr _ _ _
 ·cases h
def J9:List Ctr:=[k32]++J8
theorem ZD7:ZaP Try.prog J9:=⟨ZCz,ZcV⟩
end Go.Proofs.Ytklbmkllepkjcaa
/- Paths of functions, printed by the explorer (Gx). No condition. -/
namespace Go.Proofs.Ytklbmkllepkjcaa
set_option maxRecDepth 100000
set_option linter.unusedVariables false
def ZyJ(m g0 g1:Int)(xs:List Int)(ps:List AV):AFrame:={ fn:=38,N:=106,env:=[(0,AV.agg (Row.gen [.int .i64 m, .int .i64 g0, .int .i64 g1])),(1,AV.list (.ints .i64 xs)),(2,AV.list (Row.big (.ints .i64) ps))],todo:=[.code a38.code],defs:=[],rnd:=none,ret:=false,res:=[ARes.tmp 6] }
def ZGs(m g0 g1:Int)(xs:List Int)(ps:List AV):List AFrame:=[(ZyJ m g0 g1 xs ps)]
theorem Zqf(m g0 g1:Int)(xs:List Int)(ps:List AV):Zas tab 38 [AV.agg (Row.gen [.int .i64 m, .int .i64 g0, .int .i64 g1]),AV.list (.ints .i64 xs),AV.list (Row.big (.ints .i64) ps)]=some (ZyJ m g0 g1 xs ps):=rfl
def ZeS(m g0 g1:Int)(xs:List Int)(ps:List AV)(n0 n1:Int):List AFrame:=[{ fn:=38,N:=106,env:=[(1,AV.list (.ints .i64 xs)),(2,AV.list (Row.big (.ints .i64) ps)),(3,AV.ptr 38004 0 0 0),(7,AV.int .i64 n0),(8,AV.int .i64 n1)],todo:=.code (ACode.gh [] ZBL)::ZDn,defs:=[],rnd:=none,ret:=false,res:=[ARes.tmp 6] }]
def ZdR(m g0 g1:Int)(xs:List Int)(ps:List AV)(n0 n1:Int):Zac:=[(38004,{ base:=0,blks:=[Blk.row 24 3 (Row.gen [AV.agg (Row.gen [AV.int .i64 m,AV.int .i64 g0,AV.int .i64 g1])])] })]
abbrev Zjh(m g0 g1:Int)(xs:List Int)(ps:List AV)(n0 n1:Int):List AFrame×Zac:=(ZeS m g0 g1 xs ps n0 n1,ZdR m g0 g1 xs ps n0 n1)
def Zhr(m g0 g1:Int)(xs:List Int)(ps:List AV)(n0 n1 n2:Int):List AFrame:=[{ fn:=38,N:=106,env:=[(1,AV.list (.ints .i64 xs)),(2,AV.list (Row.big (.ints .i64) ps)),(3,AV.ptr 38004 0 0 0),(7,AV.int .i64 n0),(8,AV.int .i64 n1),(9,AV.int .i64 n2)],todo:=.code (ACode.gh [] ZyL)::ZEE,defs:=[],rnd:=none,ret:=false,res:=[ARes.tmp 6] }]
def Zfw(m g0 g1:Int)(xs:List Int)(ps:List AV)(n0 n1 n2:Int):Zac:=[(38004,{ base:=0,blks:=[Blk.row 24 3 (Row.gen [AV.agg (Row.gen [AV.int .i64 m,AV.int .i64 g0,AV.int .i64 g1])])] })]
abbrev Zil(m g0 g1:Int)(xs:List Int)(ps:List AV)(n0 n1 n2:Int):List AFrame×Zac:=(Zhr m g0 g1 xs ps n0 n1 n2,Zfw m g0 g1 xs ps n0 n1 n2)
def ZeJ(m g0 g1:Int)(xs:List Int)(ps:List AV)(n0 n3:Int):List AFrame:=[{ fn:=38,N:=106,env:=[(1,AV.list (.ints .i64 xs)),(2,AV.list (Row.big (.ints .i64) ps)),(3,AV.ptr 38004 0 0 0),(7,AV.int .i64 n0),(10,AV.int .i64 n3)],todo:=.code (ACode.gh [] ZAP)::ZDB,defs:=[],rnd:=none,ret:=false,res:=[ARes.tmp 6] }]
def ZdL(m g0 g1:Int)(xs:List Int)(ps:List AV)(n0 n3:Int):Zac:=[(38004,{ base:=0,blks:=[Blk.row 24 3 (Row.gen [AV.agg (Row.gen [AV.int .i64 m,AV.int .i64 g0,AV.int .i64 g1])])] })]
abbrev Ziq(m g0 g1:Int)(xs:List Int)(ps:List AV)(n0 n3:Int):List AFrame×Zac:=(ZeJ m g0 g1 xs ps n0 n3,ZdL m g0 g1 xs ps n0 n3)
def ZhY(m g0 g1:Int)(xs:List Int)(ps:List AV)(n0 n3 n4:Int):List AFrame:=[{ fn:=38,N:=106,env:=[(1,AV.list (.ints .i64 xs)),(2,AV.list (Row.big (.ints .i64) ps)),(3,AV.ptr 38004 0 0 0),(7,AV.int .i64 n0),(10,AV.int .i64 n3),(11,AV.int .i64 n4)],todo:=.code (ACode.gh [] ZzG)::ZEd,defs:=[],rnd:=none,ret:=false,res:=[ARes.tmp 6] }]
def Zfm(m g0 g1:Int)(xs:List Int)(ps:List AV)(n0 n3 n4:Int):Zac:=[(38004,{ base:=0,blks:=[Blk.row 24 3 (Row.gen [AV.agg (Row.gen [AV.int .i64 m,AV.int .i64 g0,AV.int .i64 g1])])] })]
abbrev ZfP(m g0 g1:Int)(xs:List Int)(ps:List AV)(n0 n3 n4:Int):List AFrame×Zac:=(ZhY m g0 g1 xs ps n0 n3 n4,Zfm m g0 g1 xs ps n0 n3 n4)
def Ze6(m g0 g1:Int)(xs:List Int)(ps:List AV)(n0 n3 n4 n5:Int):List AFrame:=[{ fn:=38,N:=106,env:=[(1,AV.list (.ints .i64 xs)),(2,AV.list (Row.big (.ints .i64) ps)),(3,AV.ptr 38004 0 0 0),(7,AV.int .i64 n0),(10,AV.int .i64 n3),(11,AV.int .i64 n4),(12,AV.int .i64 n5)],todo:=.code (ACode.gh [] ZzR)::ZEw,defs:=[],rnd:=none,ret:=false,res:=[ARes.tmp 6] }]
def Zds(m g0 g1:Int)(xs:List Int)(ps:List AV)(n0 n3 n4 n5:Int):Zac:=[(38004,{ base:=0,blks:=[Blk.row 24 3 (Row.gen [AV.agg (Row.gen [AV.int .i64 m,AV.int .i64 g0,AV.int .i64 g1])])] })]
abbrev Zft(m g0 g1:Int)(xs:List Int)(ps:List AV)(n0 n3 n4 n5:Int):List AFrame×Zac:=(Ze6 m g0 g1 xs ps n0 n3 n4 n5,Zds m g0 g1 xs ps n0 n3 n4 n5)
def Zvt(A:Ar)(K:KT)(F:FT)(m g0 g1:Int)(xs:List Int)(ps:List AV):Prop:=rB [A.inR .i64 (A.add (A.quo (A.int (A.len xs)) 2) 1),Zae (A.not (A.eq 2 0)) (A.inR .i64 (A.quo (A.int (A.len xs)) 2))] (bB (A.not (A.eq (A.int (A.lenA ps)) (A.add (A.quo (A.int (A.len xs)) 2) 1))) (F (AV.int .i64 10) (none)) (K (Zjh (m) (g0) (g1) (xs) (ps) (A.quo (A.int (A.len xs)) 2) (0))))
theorem ZA1{A:Ar}{K:KT}{F:FT}{M:MT}{m g0 g1:Int}{xs:List Int}{ps:List AV} :Zap A tab J8 38 K F M (.run 21 (.tf (.run 5 (.fn)) (.run 9 (.hd)))) (ZGs m g0 g1 xs ps) []=Zvt A K F m g0 g1 xs ps:=by kernel_rfl
def Zdy(A:Ar)(K:KT)(F:FT)(m g0 g1:Int)(xs:List Int)(ps:List AV)(n0 n1:Int):Prop:=bB (A.le n1 n0) (rB [decide (Za7 m=true),Zae (Zae (A.le 0 n1) (Nat.blt (A.nat n1) (A.lenA ps))) true] (bB (A.not (A.eq (A.int (A.len (AV.toIs (A.nthA ps (A.nat n1))))) (stN m))) (F (AV.int .i64 10) (none)) (K (Zil (m) (g0) (g1) (xs) (ps) (n0) (n1) (0))))) (K (Ziq (m) (g0) (g1) (xs) (ps) (n0) (0)))
theorem ZiH{A:Ar}{K:KT}{F:FT}{M:MT}{m g0 g1:Int}{xs:List Int}{ps:List AV}{n0 n1:Int} :Zap A tab J8 38 K F M (.run 8 (.tf (.run 7 (.tf (.run 5 (.fn)) (.run 8 (.hd)))) (.run 9 (.hd)))) (ZeS m g0 g1 xs ps n0 n1) (ZdR m g0 g1 xs ps n0 n1)=Zdy A K F m g0 g1 xs ps n0 n1:=by kernel_rfl
def Zdk(A:Ar)(K:KT)(F:FT)(m g0 g1:Int)(xs:List Int)(ps:List AV)(n0 n1 n2:Int):Prop:=rB [decide (Za7 m=true)] (bB (A.lt n2 (stN m)) (rB [Zae (Zae (A.le 0 n2) (Nat.blt (A.nat n2) (A.len (AV.toIs (A.nthA ps (A.nat n1)))))) true,Zae (Zae (A.le 0 n1) (Nat.blt (A.nat n1) (A.lenA ps))) true] (bB (A.not (Zat (A.nth (AV.toIs (A.nthA ps (A.nat n1))) (A.nat n2)) (-1000000) 1000000)) (F (AV.int .i64 2) (none)) (rB [A.inR .i64 (A.add n2 1)] (K (Zil (m) (g0) (g1) (xs) (ps) (n0) (n1) (A.add n2 1)))))) (rB [A.inR .i64 (A.add n1 1)] (K (Zjh (m) (g0) (g1) (xs) (ps) (n0) (A.add n1 1)))))
theorem Zju{A:Ar}{K:KT}{F:FT}{M:MT}{m g0 g1:Int}{xs:List Int}{ps:List AV}{n0 n1 n2:Int} :Zap A tab J8 38 K F M (.run 9 (.tf (.run 16 (.tf (.run 5 (.fn)) (.run 9 (.hd)))) (.run 9 (.hd)))) (Zhr m g0 g1 xs ps n0 n1 n2) (Zfw m g0 g1 xs ps n0 n1 n2)=Zdk A K F m g0 g1 xs ps n0 n1 n2:=by kernel_rfl
def Zf2(A:Ar)(K:KT)(F:FT)(m g0 g1:Int)(xs:List Int)(ps:List AV)(n0 n3:Int):Prop:=bB (A.lt n3 n0) (K (ZfP (m) (g0) (g1) (xs) (ps) (n0) (n3) (0))) (F (AV.int .i64 0) (none))
theorem Ziv{A:Ar}{K:KT}{F:FT}{M:MT}{m g0 g1:Int}{xs:List Int}{ps:List AV}{n0 n3:Int} :Zap A tab J8 38 K F M (.run 8 (.tf (.run 10 (.hd)) (.run 6 (.fn)))) (ZeJ m g0 g1 xs ps n0 n3) (ZdL m g0 g1 xs ps n0 n3)=Zf2 A K F m g0 g1 xs ps n0 n3:=by kernel_rfl
def ZfN(A:Ar)(K:KT)(F:FT)(m g0 g1:Int)(xs:List Int)(ps:List AV)(n0 n3 n4:Int):Prop:=rB [decide (Za7 m=true)] (bB (A.lt n4 (stN m)) (K (Zft (m) (g0) (g1) (xs) (ps) (n0) (n3) (n4) (0))) (rB [A.inR .i64 (A.add n3 1)] (K (Ziq (m) (g0) (g1) (xs) (ps) (n0) (A.add n3 1)))))
theorem Zi9{A:Ar}{K:KT}{F:FT}{M:MT}{m g0 g1:Int}{xs:List Int}{ps:List AV}{n0 n3 n4:Int} :Zap A tab J8 38 K F M (.run 9 (.tf (.run 10 (.hd)) (.run 9 (.hd)))) (ZhY m g0 g1 xs ps n0 n3 n4) (Zfm m g0 g1 xs ps n0 n3 n4)=ZfN A K F m g0 g1 xs ps n0 n3 n4:=by kernel_rfl
def Zbu(A:Ar)(K:KT)(F:FT)(m g0 g1:Int)(xs:List Int)(ps:List AV)(n0 n3 n4 n5:Int):Prop:=bB (A.lt n5 2) (bB (A.eq n5 0) (rB [Zae (Zae (A.le 0 (nxS m n4 n5)) (Nat.blt (A.nat (nxS m n4 n5)) (A.len (AV.toIs (A.nthA ps (A.nat (A.add n3 1))))))) true,Zae (Zae (A.le 0 (A.add n3 1)) (Nat.blt (A.nat (A.add n3 1)) (A.lenA ps))) true,A.inR .i64 (A.add n3 1),A.inR .i64 (A.add (A.nth (AV.toIs (A.nthA ps (A.nat n3))) (A.nat n4)) (gaI xs (Int.toNat n3) (List.getD (A.sub3 [oS m g0 n4 n5,oS m g1 n4 n5] 0 2) 0 0) (List.getD (A.sub3 [oS m g0 n4 n5,oS m g1 n4 n5] 0 2) 1 0))),decide (gaG xs (A.sub3 [oS m g0 n4 n5,oS m g1 n4 n5] 0 2) n3=true),Nat.ble 2 (A.len [oS m g0 n4 n5,oS m g1 n4 n5]),Zae (Zae (A.le 0 n4) (Nat.blt (A.nat n4) (A.len (AV.toIs (A.nthA ps (A.nat n3)))))) true,Zae (Zae (A.le 0 n3) (Nat.blt (A.nat n3) (A.lenA ps))) true,Nat.beq (A.len [oS m g0 n4 n5,oS m g1 n4 n5]) 2,Nat.blt 0 (A.len [0,0]),decide (Zcb m g0 g1 n4 n5=true)] (bB (A.lt (A.nth (AV.toIs (A.nthA ps (A.nat (A.add n3 1)))) (A.nat (nxS m n4 n5))) (A.add (A.nth (AV.toIs (A.nthA ps (A.nat n3))) (A.nat n4)) (gaI xs (Int.toNat n3) (List.getD (A.sub3 [oS m g0 n4 n5,oS m g1 n4 n5] 0 2) 0 0) (List.getD (A.sub3 [oS m g0 n4 n5,oS m g1 n4 n5] 0 2) 1 0)))) (F (AV.int .i64 19) (none)) (rB [A.inR .i64 (A.add n5 1)] (K (Zft (m) (g0) (g1) (xs) (ps) (n0) (n3) (n4) (A.add n5 1)))))) (rB [A.inR .i64 (A.sub n0 m)] (bB (A.lt n3 (A.sub n0 m)) (rB [Zae (Zae (A.le 0 (nxS m n4 n5)) (Nat.blt (A.nat (nxS m n4 n5)) (A.len (AV.toIs (A.nthA ps (A.nat (A.add n3 1))))))) true,Zae (Zae (A.le 0 (A.add n3 1)) (Nat.blt (A.nat (A.add n3 1)) (A.lenA ps))) true,A.inR .i64 (A.add n3 1),A.inR .i64 (A.add (A.nth (AV.toIs (A.nthA ps (A.nat n3))) (A.nat n4)) (gaI xs (Int.toNat n3) (List.getD (A.sub3 [oS m g0 n4 n5,oS m g1 n4 n5] 0 2) 0 0) (List.getD (A.sub3 [oS m g0 n4 n5,oS m g1 n4 n5] 0 2) 1 0))),decide (gaG xs (A.sub3 [oS m g0 n4 n5,oS m g1 n4 n5] 0 2) n3=true),Nat.ble 2 (A.len [oS m g0 n4 n5,oS m g1 n4 n5]),Zae (Zae (A.le 0 n4) (Nat.blt (A.nat n4) (A.len (AV.toIs (A.nthA ps (A.nat n3)))))) true,Zae (Zae (A.le 0 n3) (Nat.blt (A.nat n3) (A.lenA ps))) true,Nat.beq (A.len [oS m g0 n4 n5,oS m g1 n4 n5]) 2,Nat.blt 0 (A.len [0,0]),decide (Zcb m g0 g1 n4 n5=true)] (bB (A.lt (A.nth (AV.toIs (A.nthA ps (A.nat (A.add n3 1)))) (A.nat (nxS m n4 n5))) (A.add (A.nth (AV.toIs (A.nthA ps (A.nat n3))) (A.nat n4)) (gaI xs (Int.toNat n3) (List.getD (A.sub3 [oS m g0 n4 n5,oS m g1 n4 n5] 0 2) 0 0) (List.getD (A.sub3 [oS m g0 n4 n5,oS m g1 n4 n5] 0 2) 1 0)))) (F (AV.int .i64 19) (none)) (rB [A.inR .i64 (A.add n5 1)] (K (Zft (m) (g0) (g1) (xs) (ps) (n0) (n3) (n4) (A.add n5 1)))))) (rB [A.inR .i64 (A.add n4 1)] (K (ZfP (m) (g0) (g1) (xs) (ps) (n0) (n3) (A.add n4 1))))))) (rB [A.inR .i64 (A.add n4 1)] (K (ZfP (m) (g0) (g1) (xs) (ps) (n0) (n3) (A.add n4 1))))
theorem Zgg{A:Ar}{K:KT}{F:FT}{M:MT}{m g0 g1:Int}{xs:List Int}{ps:List AV}{n0 n3 n4 n5:Int} :Zap A tab J8 38 K F M (.run 7 (.tf (.ty (.ty (.tf (.ty (.ty (.ty (.ty (.ty (.alt [true,true] (.ty (.run 2 (.ty (.run 20 (.tf (.run 5 (.fn)) (.run 9 (.hd))))))) (.no))))))) (.fy (.fy (.fy (.fy (.fy (.alt [true,false] (.ty (.run 2 (.tf (.run 20 (.tf (.run 5 (.fn)) (.run 9 (.hd)))) (.run 9 (.hd))))) (.no)))))))))) (.fy (.fy (.run 6 (.fy (.fy (.run 2 (.fy (.run 9 (.hd))))))))))) (Ze6 m g0 g1 xs ps n0 n3 n4 n5) (Zds m g0 g1 xs ps n0 n3 n4 n5)=Zbu A K F m g0 g1 xs ps n0 n3 n4 n5:=by kernel_rfl
def ZAc(ps:List AV):AFrame:={ fn:=39,N:=17,env:=[(0,AV.list (Row.big (.ints .i64) ps))],todo:=[.code a39.code],defs:=[],rnd:=none,ret:=false,res:=[ARes.tmp 2] }
def ZHu(ps:List AV):List AFrame:=[(ZAc ps)]
theorem ZwG(ps:List AV):Zas tab 39 [AV.list (Row.big (.ints .i64) ps)]=some (ZAc ps):=rfl
def ZyF(A:Ar)(K:KT)(F:FT)(ps:List AV):Prop:=rB [A.inR .i64 (A.sub (A.nth (AV.toIs (A.nthA ps (A.nat (A.sub (A.int (A.lenA ps)) 1)))) (A.nat 0)) (A.nth (AV.toIs (A.nthA ps (A.nat 0))) (A.nat 0))),Zae (Zae (A.le 0 0) (Nat.blt (A.nat 0) (A.len (AV.toIs (A.nthA ps (A.nat 0)))))) true,Zae (Zae (A.le 0 0) (Nat.blt (A.nat 0) (A.lenA ps))) true,Zae (Zae (A.le 0 0) (Nat.blt (A.nat 0) (A.len (AV.toIs (A.nthA ps (A.nat (A.sub (A.int (A.lenA ps)) 1))))))) true,Zae (Zae (A.le 0 (A.sub (A.int (A.lenA ps)) 1)) (Nat.blt (A.nat (A.sub (A.int (A.lenA ps)) 1)) (A.lenA ps))) true,A.inR .i64 (A.sub (A.int (A.lenA ps)) 1)] (F (AV.int .i64 (A.sub (A.nth (AV.toIs (A.nthA ps (A.nat (A.sub (A.int (A.lenA ps)) 1)))) (A.nat 0)) (A.nth (AV.toIs (A.nthA ps (A.nat 0))) (A.nat 0)))) (none))
theorem ZEH{A:Ar}{K:KT}{F:FT}{M:MT}{ps:List AV} :Zap A tab J8 39 K F M (.run 8 (.fn)) (ZHu ps) []=ZyF A K F ps:=by kernel_rfl
def ZAD(ps:List AV):AFrame:={ fn:=88,N:=20,env:=[(0,AV.list (Row.big (.ints .i64) ps))],todo:=[.code a88.code],defs:=[],rnd:=none,ret:=false,res:=[ARes.tmp 2] }
def ZHe(ps:List AV):List AFrame:=[(ZAD ps)]
theorem Zwm(ps:List AV):Zas tab 88 [AV.list (Row.big (.ints .i64) ps)]=some (ZAD ps):=rfl
def Zhu(ps:List AV)(n0:Int)(l1:List Nat)(l2:List (List Int)):List AFrame:=[{ fn:=88,N:=20,env:=[(0,AV.list (Row.big (.ints .i64) ps)),(3,AV.row 88019 0),(4,AV.int .i64 n0)],todo:=.code (ACode.gh [] Zza)::ZEW,defs:=[],rnd:=none,ret:=false,res:=[ARes.tmp 2] }]
def Zfn(ps:List AV)(n0:Int)(l1:List Nat)(l2:List (List Int)):Zac:=[(88019,{ base:=0,blks:=[Blk.row 25 1 (Row.refs 1000088 l1)] }),(1000088,{ base:=0,blks:=[],sym:=Sym.ints 3 1 .i64 l2 })]
abbrev Zjn(ps:List AV)(n0:Int)(l1:List Nat)(l2:List (List Int)):List AFrame×Zac:=(Zhu ps n0 l1 l2,Zfn ps n0 l1 l2)
def ZzU(A:Ar)(K:KT)(F:FT)(ps:List AV):Prop:=K (Zjn (ps) (0) ([]) ([]))
theorem ZEu{A:Ar}{K:KT}{F:FT}{M:MT}{ps:List AV} :Zap A tab J8 88 K F M (.run 18 (.hd)) (ZHe ps) []=ZzU A K F ps:=by kernel_rfl
def ZfS(A:Ar)(K:KT)(F:FT)(ps:List AV)(n0:Int)(l1:List Nat)(l2:List (List Int)):Prop:=bB (A.lt n0 (A.int (A.lenA ps))) (rB [A.inR .i64 (A.add n0 1),Nat.ble (A.lenF l1+A.lenF [0+List.length (List.map (fun l=>Blk.row 3 1 (.ints .i64 l)) l2)]) 4294967296,List.all [AV.row 1000088 (0+List.length (List.map (fun l=>Blk.row 3 1 (.ints .i64 l)) l2))] fun x=>AV.bx x&&Nat.beq (Zao A x) 1,decide (List.length (AV.toIs (A.nthA ps (A.nat n0)))≤1000000),Zae (Zae (A.le 0 n0) (Nat.blt (A.nat n0) (A.lenA ps))) true] (K (Zjn (ps) (A.add n0 1) (A.appF l1 [0+List.length (List.map (fun l=>Blk.row 3 1 (.ints .i64 l)) l2)]) (List.append l2 [AV.toIs (A.nthA ps (A.nat n0))])))) (F (AV.list (Row.gen (List.map (fun j=>AV.list (.ints .i64 (List.getD l2 j []))) l1))) (none))
theorem Zi4{A:Ar}{K:KT}{F:FT}{M:MT}{ps:List AV}{n0:Int}{l1:List Nat}{l2:List (List Int)} :Zap A tab J8 88 K F M (.run 9 (.tf (.run 22 (.hd)) (.run 7 (.fn)))) (Zhu ps n0 l1 l2) (Zfn ps n0 l1 l2)=ZfS A K F ps n0 l1 l2:=by kernel_rfl
end Go.Proofs.Ytklbmkllepkjcaa
/- Contracts as a list. No condition. -/
namespace Go.Proofs.Ytklbmkllepkjcaa
@[simp] theorem ZE9 (l:List AV):std.lenA l=l.length:=rfl
@[simp] theorem ZFP (l:List AV) (j:Nat):std.nthA l j=l.getD j .top:=rfl
def pR(ps:List AV)(t:Nat):List Int:=AV.toIs (ps.getD t .top)
section
variable (m p q:Int)(so:List Int)(ps:List AV)
def obB(t s:Nat)(b:Int):Bool:=decide ((pR ps t).getD s 0+gnI m p q so t s b≤(pR ps (t+1)).getD (nxS m s b).toNat 0)
def obS(t s:Nat):Bool:=obB m p q so ps t s 0&&(if t<ZaI m so then obB m p q so ps t s 1 else true)
def obT(t:Nat):Nat→Nat→Bool
 |0,_=>true
 |k+1,s=>obS m p q so ps t s&&obT t k (s+1)
def obA:Nat→Nat→Bool
 |0,_=>true
 |k+1,t=>obT m p q so ps t (stS m) 0&&obA k (t+1)
def ZjQ(l:List Int):Int:=Za5 [Zay (decide ((l.length:Int)=stN m)) 10,Zbs l (-1000000) 1000000]
def ZbM:Nat→Nat→Int
 |0,_=>0
 |k+1,t=>if ZjQ m (pR ps t)=0 then ZbM k (t+1)else ZjQ m (pR ps t)
def ptE:Int:=if ps.length=Zaa so+1 then(if ZbM m ps (Zaa so+1) 0=0 then(if obA m p q so ps (Zaa so) 0=true then 0 else 19)else ZbM m ps (Zaa so+1) 0)else 10
def pbI:Int:=(pR ps (Zaa so)).getD 0 0-(pR ps 0).getD 0 0
def r35(b:Bool):AV:=.tup [.int .i64 (if b=true then pbI so ps else 0), .int .i64 (if b=true then 0 else 19)]
end
structure OkP (m:Int) (so:List Int) (ps:List AV):Prop where
 n:ps.length=Zaa so+1
 l:∀t,t≤Zaa so→(pR ps t).length=stS m
 r:∀t j,t≤Zaa so→ -1000000≤(pR ps t).getD j 0∧(pR ps t).getD j 0≤1000000
theorem ZCA{l:List Int}{a b:Int}(h:Zbs l a b=0)(h0:a≤0∧0≤b)(j:Nat):a≤l.getD j 0∧l.getD j 0≤b:=by
 unfold Zbs at h
 split at h
 ·rename_i hall
  by_cases hk:j<l.length
  ·have:=List.all_eq_true.1 hall _ (ZgO (d:=0) hk)
   simpa[Zat]using of_decide_eq_true this
  ·rw[List.getD_eq_getElem?_getD,List.getElem?_eq_none (by omega)];simpa using h0
 ·cases h
theorem ZpM{m:Int}{ps:List AV} :∀(k t:Nat),ZbM m ps k t=0→∀j,t≤j→j<t+k→ZjQ m (pR ps j)=0
 |0,t,_,j,h1,h2=>by omega
 |k+1,t,h,j,h1,h2=>by
  rw[ZbM]at h
  split at h
  ·rename_i h0
   by_cases hj:j=t
   ·subst hj;exact h0
   ·exact ZpM k (t+1) h j (by omega) (by omega)
  ·contradiction
theorem Zqp{m:Int}{so:List Int}{ps:List AV}(hm:m=1∨m=2∨m=3)(hn:ps.length=Zaa so+1)(h:ZbM m ps (Zaa so+1) 0=0):OkP m so ps:=by
 have h2:=ZaC hm
 have key:∀t,t≤Zaa so→(pR ps t).length=stS m∧Zbs (pR ps t) (-1000000) 1000000=0:=fun t ht=>by
  have:=ZpM (Zaa so+1) 0 h t (by omega) (by omega)
  obtain⟨a,b⟩:=Zk1 this
  obtain⟨c,_⟩:=Zk1 b
  refine⟨?_,c⟩
  by_cases hl:((pR ps t).length:Int)=stN m
  ·omega
  ·simp[Zay,hl]at a
 exact⟨hn,fun t ht=>(key t ht).1,fun t j ht=>ZCA (key t ht).2 (by omega) j⟩
section
variable {C:Ctx}(hC:C.P=Try.prog)(m p q:Int)(so:List Int)(ps:List AV)(h:OkC m p q so)(hp:OkP m so ps)
include hC h hp
theorem Y1(t s:Nat)(ht:t<Zaa so)(hs:s<stS m)(n5:Int)(b6 b7:Bool)(j8:Nat)(b:Int)(hb:b=0∨b=1∧t<ZaI m so)(r:AV)
 (hn:obB m p q so ps t s b=true→Ev C (ZdU m p q so ps (Zaa so) t n5 b6 b7 j8 s (b+1)) (ZcM m p q so ps (Zaa so) t n5 b6 b7 j8 s (b+1)) (ZaX 35 r none))
 (he:obB m p q so ps t s b=false→r=r35 so ps false):
 Ev C (ZdU m p q so ps (Zaa so) t n5 b6 b7 j8 s b) (ZcM m p q so ps (Zaa so) t n5 b6 b7 j8 s b) (ZaX 35 r none):=by
 obtain⟨hg,_,hl2,hl3⟩:=h.soft
 have hlen:2*Zaa so≤so.length:=by unfold Zaa;omega
 have hm:=(Zaj h.cv).1
 have hbb:b=0∨b=1:=by omega
 obtain⟨s1,s2,s3⟩:=ZaG h hs hbb
 have k1:(2*(t:Int)).toNat=2*t:=by omega
 have k2:(2*(t:Int)+1).toNat=2*t+1:=by omega
 have k3:((t:Int)+1).toNat=t+1:=by omega
 have hco:=Zoy so t (Zcl m p s b) (Zcl m q s b)
 have hgf:=Zun (m:=m) (p:=p) (q:=q) hg t s b
 have hgl:=Zcy (m:=m) (p:=p) (q:=q) hg t s b
 have a1:=Zbp hg (2*t)
 have a2:=Zbp hg (2*t+1)
 have hD:=hp.r t s (by omega)
 have hX:=hp.r (t+1) (nxS m s b).toNat (by omega)
 have l1:=hp.l t (by omega)
 have l2:=hp.l (t+1) (by omega)
 have l3:=hp.n
 have hT:Zaa so≤303:=by unfold Zaa;omega
 have hbt:t<ZaI m so↔¬ZbL m so≤t:=by unfold ZaI ZbL Zag;omega
 have h108:ZlT m so=true:=decide_eq_true (by omega)
 unfold obB at hn he
 have e1:AV.toIs (ps.getD t .top)=pR ps t:=rfl
 have e2:AV.toIs (ps.getD (t+1) .top)=pR ps (t+1):=rfl
 have g1:t<Zaa so+1:=by omega
 unfold gnI at hgf hgl hn he
 refine tgo hC ZcW Zex ?_
 by_cases hq:(pR ps t).getD s 0+gaI so t (oS m p s b) (oS m q s b)≤(pR ps (t+1)).getD (nxS m s b).toNat 0
 ·have hn:=hn (decide_eq_true hq)
  have hq':¬(pR ps (t+1)).getD (nxS m s b).toNat 0<(pR ps t).getD s 0+gaI so t (oS m p s b) (oS m q s b):=by omega
  rcases hb with rfl |⟨rfl,hb⟩
  ·simp[-List.getD_eq_getElem?_getD,List.getD_cons_zero,List.getD_cons_succ,Zbi,s1,s2,s3,k1,k2,k3,hco,hgf,l1,l2,l3,hs,h108,e1,e2,hq',g1,ht]at hn⊢
   refine⟨?_,hn⟩
   omega
  ·have hb2:=hbt.1 hb
   simp[-List.getD_eq_getElem?_getD,List.getD_cons_zero,List.getD_cons_succ,Zbi,s1,s2,s3,k1,k2,k3,hco,hgf,l1,l2,l3,hs,h108,e1,e2,hq',g1,ht,hb2]at hn⊢
   refine⟨?_,hn⟩
   omega
 ·have he:=he (decide_eq_false hq)
  have hq':(pR ps (t+1)).getD (nxS m s b).toNat 0<(pR ps t).getD s 0+gaI so t (oS m p s b) (oS m q s b):=by omega
  rcases hb with rfl |⟨rfl,hb⟩
  ·simp[-List.getD_eq_getElem?_getD,List.getD_cons_zero,List.getD_cons_succ,Zbi,s1,s2,s3,k1,k2,k3,hco,hgf,l1,l2,l3,hs,h108,e1,e2,hq',g1,ht,he,r35]
   omega
  ·have hb2:=hbt.1 hb
   simp[-List.getD_eq_getElem?_getD,List.getD_cons_zero,List.getD_cons_succ,Zbi,s1,s2,s3,k1,k2,k3,hco,hgf,l1,l2,l3,hs,h108,e1,e2,hq',g1,ht,hb2,he,r35]
   omega
theorem Y0(t:Nat)(ht:t<Zaa so)(b6 b7:Bool)(j8:Nat)(x:Bool)
 (hn:Ev C (ZeE m p q so ps (Zaa so) ((t+1:Nat):Int) j8) (ZdS m p q so ps (Zaa so) ((t+1:Nat):Int) j8) (ZaX 35 (r35 so ps x) none)):
 ∀k s:Nat,s+k=stS m→
 Ev C (Zfi m p q so ps (Zaa so) t (stN m) b6 b7 j8 s) (Zd3 m p q so ps (Zaa so) t (stN m) b6 b7 j8 s) (ZaX 35 (r35 so ps (obT m p q so ps t k s&&x)) none):=by
 have hm:=(Zaj h.cv).1
 have h2:=ZaC hm
 obtain⟨hg,_,hl2,hl3⟩:=h.soft
 have hT:Zaa so≤303:=by unfold Zaa;omega
 have hbt:t<ZaI m so↔¬ZbL m so≤t:=by unfold ZaI ZbL Zag;omega
 have h108:ZlT m so=true:=decide_eq_true (by omega)
 intro k
 induction k with
 |zero=>
  intro s hs
  refine tgo hC ZcW ZhD ?_
  simp[Zer,obT,show ¬(s:Int)<stN m by omega]at hn⊢
  exact⟨by omega,hn⟩
 |succ k ih=>
  intro s hs
  refine tgo hC ZcW ZhD ?_
  have hs':s<stS m:=by omega
  have ih':=ih (s+1) (by omega)
  simp[Zer,show(s:Int)<stN m by omega]
  refine Y1 hC m p q so ps h hp t s ht hs' _ _ _ _ 0 (Or.inl rfl) _ (fun q0=>?_) (fun q0=>by simp[obT,obS,q0])
  by_cases hb:t<ZaI m so
  ·refine Y1 hC m p q so ps h hp t s ht hs' _ _ _ _ 1 (Or.inr ⟨rfl,hb⟩) _ (fun q1=>?_) (fun q1=>by simp[obT,obS,q1,hb])
   have e:(obT m p q so ps t (k+1) s&&x)=(obT m p q so ps t k (s+1)&&x):=by simp[obT,obS,q0,q1]
   rw[e]
   refine tgo hC ZcW Zex ?_
   simp[Zbi]at ih'⊢
   exact⟨by omega,ih'⟩
  ·have e:(obT m p q so ps t (k+1) s&&x)=(obT m p q so ps t k (s+1)&&x):=by simp[obT,obS,q0,hb]
   rw[e]
   have hb2:ZbL m so≤t:=by omega
   refine tgo hC ZcW Zex ?_
   simp[Zbi,h108,hb2]at ih'⊢
   exact⟨by omega,ih'⟩
theorem Y35:∀k t j:Nat,t+k=Zaa so→Ev C (ZeE m p q so ps (Zaa so) t j) (ZdS m p q so ps (Zaa so) t j) (ZaX 35 (r35 so ps (obA m p q so ps k t)) none):=by
 have hm:=(Zaj h.cv).1
 have h2:=ZaC hm
 have hmm:Za7 m=true:=decide_eq_true (by omega)
 obtain⟨hg,_,hl2,hl3⟩:=h.soft
 have hTT:Zag so=(Zaa so:Int):=rfl
 have hT:Zaa so≤303:=by unfold Zaa;omega
 intro k
 induction k with
 |zero=>
  intro t j ht
  refine tgo hC ZcW Zjg ?_
  have e1:AV.toIs (ps.getD (Zaa so) .top)=pR ps (Zaa so):=rfl
  have e2:AV.toIs (ps.getD 0 .top)=pR ps 0:=rfl
  have l1:=hp.l (Zaa so) (by omega)
  have l2:=hp.l 0 (by omega)
  have l3:=hp.n
  have a1:=hp.r (Zaa so) 0 (by omega)
  have a2:=hp.r 0 0 (by omega)
  simp[-List.getD_eq_getElem?_getD,Zfy,hTT,e1,e2,l1,l2,l3,show ¬(t:Int)<Zaa so by omega,obA,r35,pbI]
  omega
 |succ k ih=>
  intro t j ht
  refine tgo hC ZcW Zjg ?_
  have i:=Y0 hC m p q so ps h hp t (by omega) true true (j+1) _ (ih (t+1) (j+1) (by omega)) (stS m) 0 (by omega)
  simp[Zfy,hmm,show(t:Int)<Zaa so by omega,obA]at i⊢
  exact i
end
def ZtY(m p q:Int)(so:List Int)(ps:List AV)(k t:Nat):AV:=if ZbM m ps k t=0 then r35 so ps (obA m p q so ps (Zaa so) 0)else .tup [.int .i64 0, .int .i64 (ZbM m ps k t)]
section
variable {C:Ctx}(hC:C.P=Try.prog)(m p q:Int)(so:List Int)(ps:List AV)(h:OkC m p q so)(hn:ps.length=Zaa so+1)(hrl:∀t,(pR ps t).length≤1000000)
include hC h hn hrl
theorem ZGF:∀k t:Nat,t+k=Zaa so+1→(∀j,j<t→ZjQ m (pR ps j)=0)→Ev C (ZhJ m p q so ps ((Zaa so+1:Nat):Int) t) (Zfr m p q so ps ((Zaa so+1:Nat):Int) t) (ZaX 35 (ZtY m p q so ps k t) none):=by
 have hm:=(Zaj h.cv).1
 have h2:=ZaC hm
 have hmm:Za7 m=true:=decide_eq_true (by omega)
 obtain⟨hg,_,hl2,hl3⟩:=h.soft
 have hTT:Zag so=(Zaa so:Int):=rfl
 have hT:Zaa so≤303:=by unfold Zaa;omega
 intro k
 induction k with
 |zero=>
  intro t ht hj
  refine tgo hC ZcW Ziu ?_
  have hp:OkP m so ps:=by
   refine Zqp hm hn ?_
   have:∀k t,(∀j,t≤j→j<t+k→ZjQ m (pR ps j)=0)→ZbM m ps k t=0:=by
    intro k
    induction k with
    |zero=>intro t _;rfl
    |succ k ih=>intro t hh;rw[ZbM,if_pos (hh t (by omega) (by omega))];exact ih (t+1) (fun j a b=>hh j (by omega) (by omega))
   exact this _ _ (fun j _ hj2=>hj j (by omega))
  have i:=Y35 hC m p q so ps h hp (Zaa so) 0 0 (by omega)
  simp[ZdI,hTT,show ¬(t:Int)<(Zaa so:Int)+1 by omega,ZtY,ZbM]at i⊢
  exact⟨by omega,i⟩
 |succ k ih=>
  intro t ht hj
  refine tgo hC ZcW Ziu ?_
  have e1:AV.toIs (ps.getD t .top)=pR ps t:=rfl
  have hl:=hrl t
  have e2:Za5 [Zay (decide ((pR ps t).length=stN m)) 10,Zbs (pR ps t) (-1000000) 1000000]=ZjQ m (pR ps t):=rfl
  by_cases h0:ZjQ m (pR ps t)=0
  ·have i:=ih (t+1) (by omega) (fun j hj2=>by
    by_cases hjt:j=t
    ·subst hjt;exact h0
    ·exact hj j (by omega))
   have e3:ZtY m p q so ps (k+1) t=ZtY m p q so ps k (t+1):=by unfold ZtY;rw[ZbM,if_pos h0]
   rw[e3]
   simp[-List.getD_eq_getElem?_getD,ZdI,e1,hmm,hn,hl,e2,h0,show(t:Int)<(Zaa so:Int)+1 by omega,show t<Zaa so+1 by omega,AV.bx,Zao]at i⊢
   exact⟨by omega,i⟩
  ·have e3:ZtY m p q so ps (k+1) t=.tup [.int .i64 0, .int .i64 (ZjQ m (pR ps t))]:=by unfold ZtY;rw[ZbM,if_neg h0,if_neg h0]
   rw[e3]
   simp[-List.getD_eq_getElem?_getD,ZdI,e1,hmm,hn,hl,e2,h0,show(t:Int)<(Zaa so:Int)+1 by omega,show t<Zaa so+1 by omega,AV.bx,Zao]
end
def pdE(m p q:Int)(so:List Int)(ps:List AV):Int:=if cdW m p q so=0 then ptE m p q so ps else cdW m p q so
def pdI(m p q:Int)(so:List Int)(ps:List AV):Int:=if pdE m p q so ps=0 then pbI so ps else 0
def rlB(ps:List AV):Prop:=∀t,(pR ps t).length≤1000000
theorem Ztw(m p q:Int)(so:List Int)(ps:List AV)(hl:so.length≤1000000)(hrl:rlB ps):Zai Try.prog 35 [.agg (.gen [.int .i64 m, .int .i64 p, .int .i64 q]), .list (.ints .i64 so), .list (.big (.ints .i64) ps)] (.tup [.int .i64 (pdI m p q so ps), .int .i64 (pdE m p q so ps)]) none:=by
 refine start (Zvd m p q so ps) fun C hC=>tgo hC ZcW ZDN ?_
 have hTT:Zag so=(Zaa so:Int):=rfl
 by_cases h1:ZaE m p q=0
 ·by_cases h2:sfW m so=0
  ·have e1:cdW m p q so=0:=by simp[cdW,h1,h2]
   have ho:=ZqL e1
   have hT:=ZmG ho
   by_cases h3:ps.length=Zaa so+1
   ·have i:=ZGF hC m p q so ps ho h3 hrl (Zaa so+1) 0 (by omega) (fun j hj=>by omega)
    have e4:ZtY m p q so ps (Zaa so+1) 0=.tup [.int .i64 (pdI m p q so ps), .int .i64 (pdE m p q so ps)]:=by
     unfold ZtY pdI pdE ptE r35
     simp only[e1,h3,if_true]
     by_cases a:ZbM m ps (Zaa so+1) 0=0
     ·cases b:obA m p q so ps (Zaa so) 0<;>simp[a]
     ·simp[a]
    rw[e4]at i
    simp[Zqw,h1,h2,hl,hTT,h3]at i⊢
    exact⟨by omega,i⟩
   ·have e4:pdE m p q so ps=10:=by simp[pdE,e1,ptE,h3]
    simp[Zqw,h1,h2,hl,hTT,show ¬(ps.length:Int)=(Zaa so:Int)+1 by omega,e4,pdI]
    omega
  ·have e1:cdW m p q so=sfW m so:=by simp[cdW,h1]
   simp[Zqw,h1,h2,hl,pdI,pdE,e1]
 ·have e1:cdW m p q so=ZaE m p q:=by simp[cdW,h1]
  simp[Zqw,h1,pdI,pdE,e1]
section
variable {C:Ctx}(hC:C.P=Try.prog)(m p q:Int)(so:List Int)(ps:List AV)(h:OkC m p q so)(hp:OkP m so ps)
include hC h hp
theorem V2(t s:Nat)(ht:t<Zaa so)(hs:s<stS m)(b:Int)(hb:b=0∨b=1∧t<ZaI m so)(r:AV)
 (hn:obB m p q so ps t s b=true→Ev C (Ze6 m p q so ps (Zaa so) t s (b+1)) (Zds m p q so ps (Zaa so) t s (b+1)) (ZaX 38 r none))
 (he:obB m p q so ps t s b=false→r=.int .i64 19):
 Ev C (Ze6 m p q so ps (Zaa so) t s b) (Zds m p q so ps (Zaa so) t s b) (ZaX 38 r none):=by
 obtain⟨hg,_,hl2,hl3⟩:=h.soft
 have hlen:2*Zaa so≤so.length:=by unfold Zaa;omega
 have hm:=(Zaj h.cv).1
 have hbb:b=0∨b=1:=by omega
 obtain⟨s1,s2,s3⟩:=ZaG h hs hbb
 have k3:((t:Int)+1).toNat=t+1:=by omega
 have hgl:=Zcy (m:=m) (p:=p) (q:=q) hg t s b
 have hD:=hp.r t s (by omega)
 have l1:=hp.l t (by omega)
 have l2:=hp.l (t+1) (by omega)
 have l3:=hp.n
 have hT:Zaa so≤303:=by unfold Zaa;omega
 have hbt:t<ZaI m so↔(t:Int)<Zaa so-m:=by unfold ZaI Zaa;omega
 have hga:gaG so [oS m p s b,oS m q s b] t=true:=gaG_iff.2 ⟨⟨rfl,Zio _ _ _ _,Zio _ _ _ _⟩,⟨hg,by omega⟩,by omega,by omega⟩
 unfold obB at hn he
 have e1:AV.toIs (ps.getD t .top)=pR ps t:=rfl
 have e2:AV.toIs (ps.getD (t+1) .top)=pR ps (t+1):=rfl
 have g1:t<Zaa so+1:=by omega
 unfold gnI at hgl hn he
 refine tgo hC ZcV Zgg ?_
 by_cases hq:(pR ps t).getD s 0+gaI so t (oS m p s b) (oS m q s b)≤(pR ps (t+1)).getD (nxS m s b).toNat 0
 ·have hn:=hn (decide_eq_true hq)
  have hq':¬(pR ps (t+1)).getD (nxS m s b).toNat 0<(pR ps t).getD s 0+gaI so t (oS m p s b) (oS m q s b):=by omega
  rcases hb with rfl |⟨rfl,hb⟩
  ·simp[-List.getD_eq_getElem?_getD,List.getD_cons_zero,List.getD_cons_succ,Zbu,s1,s2,s3,k3,hga,l1,l2,l3,hs,e1,e2,hq',g1,ht]at hn⊢
   refine⟨?_,hn⟩
   omega
  ·have hb2:=hbt.1 hb
   simp[-List.getD_eq_getElem?_getD,List.getD_cons_zero,List.getD_cons_succ,Zbu,s1,s2,s3,k3,hga,l1,l2,l3,hs,e1,e2,hq',g1,ht,hb2]at hn⊢
   refine⟨?_,?_,hn⟩<;>omega
 ·have he:=he (decide_eq_false hq)
  have hq':(pR ps (t+1)).getD (nxS m s b).toNat 0<(pR ps t).getD s 0+gaI so t (oS m p s b) (oS m q s b):=by omega
  rcases hb with rfl |⟨rfl,hb⟩
  ·simp[-List.getD_eq_getElem?_getD,List.getD_cons_zero,List.getD_cons_succ,Zbu,s1,s2,s3,k3,hga,l1,l2,l3,hs,e1,e2,hq',g1,ht,he]
   omega
  ·have hb2:=hbt.1 hb
   simp[-List.getD_eq_getElem?_getD,List.getD_cons_zero,List.getD_cons_succ,Zbu,s1,s2,s3,k3,hga,l1,l2,l3,hs,e1,e2,hq',g1,ht,hb2,he]
   omega
def r38(b:Bool):AV:=.int .i64 (if b=true then 0 else 19)
theorem V1(t:Nat)(ht:t<Zaa so)(x:Bool)
 (hn:Ev C (ZeJ m p q so ps (Zaa so) ((t+1:Nat):Int)) (ZdL m p q so ps (Zaa so) ((t+1:Nat):Int)) (ZaX 38 (r38 x) none)):
 ∀k s:Nat,s+k=stS m→
 Ev C (ZhY m p q so ps (Zaa so) t s) (Zfm m p q so ps (Zaa so) t s) (ZaX 38 (r38 (obT m p q so ps t k s&&x)) none):=by
 have hm:=(Zaj h.cv).1
 have h2:=ZaC hm
 have hmm:Za7 m=true:=decide_eq_true (by omega)
 obtain⟨hg,_,hl2,hl3⟩:=h.soft
 have hT:Zaa so≤303:=by unfold Zaa;omega
 have hbt:t<ZaI m so↔(t:Int)<Zaa so-m:=by unfold ZaI Zaa;omega
 intro k
 induction k with
 |zero=>
  intro s hs
  refine tgo hC ZcV Zi9 ?_
  simp[ZfN,hmm,obT,show ¬(s:Int)<stN m by omega]at hn⊢
  exact⟨by omega,hn⟩
 |succ k ih=>
  intro s hs
  refine tgo hC ZcV Zi9 ?_
  have hs':s<stS m:=by omega
  have ih':=ih (s+1) (by omega)
  simp[ZfN,hmm,show(s:Int)<stN m by omega]
  refine V2 hC m p q so ps h hp t s ht hs' 0 (Or.inl rfl) _ (fun q0=>?_) (fun q0=>by simp[obT,obS,q0,r38])
  by_cases hb:t<ZaI m so
  ·refine V2 hC m p q so ps h hp t s ht hs' 1 (Or.inr ⟨rfl,hb⟩) _ (fun q1=>?_) (fun q1=>by simp[obT,obS,q1,hb,r38])
   have e:(obT m p q so ps t (k+1) s&&x)=(obT m p q so ps t k (s+1)&&x):=by simp[obT,obS,q0,q1]
   rw[e]
   refine tgo hC ZcV Zgg ?_
   simp[Zbu]at ih'⊢
   exact⟨by omega,ih'⟩
  ·have e:(obT m p q so ps t (k+1) s&&x)=(obT m p q so ps t k (s+1)&&x):=by simp[obT,obS,q0,hb]
   rw[e]
   have hb2:¬(t:Int)<Zaa so-m:=by omega
   refine tgo hC ZcV Zgg ?_
   simp[Zbu,hb2]at ih'⊢
   refine⟨?_,?_,ih'⟩<;>omega
theorem V0:∀k t:Nat,t+k=Zaa so→Ev C (ZeJ m p q so ps (Zaa so) t) (ZdL m p q so ps (Zaa so) t) (ZaX 38 (r38 (obA m p q so ps k t)) none):=by
 have hm:=(Zaj h.cv).1
 intro k
 induction k with
 |zero=>
  intro t ht
  refine tgo hC ZcV Ziv ?_
  simp[Zf2,show ¬(t:Int)<Zaa so by omega,obA,r38]
 |succ k ih=>
  intro t ht
  refine tgo hC ZcV Ziv ?_
  have i:=V1 hC m p q so ps h hp t (by omega) _ (ih (t+1) (by omega)) (stS m) 0 (by omega)
  simp[Zf2,show(t:Int)<Zaa so by omega,obA]at i⊢
  exact i
end
def ZpQ(m p q:Int)(so:List Int)(ps:List AV)(k t:Nat):AV:=if ZbM m ps k t=0 then r38 (obA m p q so ps (Zaa so) 0)else .int .i64 (ZbM m ps k t)
theorem ZsG{m p q:Int}{so:List Int}{ps:List AV}{k t:Nat}(h:ZjQ m (pR ps t)=0):ZpQ m p q so ps (k+1) t=ZpQ m p q so ps k (t+1):=by
 unfold ZpQ;simp only[ZbM,h,if_true]
theorem ZpZ{m p q:Int}{so:List Int}{ps:List AV}{k t:Nat}(h:¬ZjQ m (pR ps t)=0):ZpQ m p q so ps (k+1) t=.int .i64 (ZjQ m (pR ps t)):=by
 unfold ZpQ;simp only[ZbM,if_neg h]
theorem ZqH{l:List Int}{a b:Int}(h:∀j,j<l.length→Zat (l.getD j 0) a b=true):Zbs l a b=0:=by
 unfold Zbs
 rw[if_pos]
 refine List.all_eq_true.2 fun x hx=>?_
 obtain⟨j,hj,rfl⟩:=List.mem_iff_getElem.1 hx
 have:=h j hj
 rwa[List.getD_eq_getElem?_getD,List.getElem?_eq_getElem hj]at this
theorem ZwK{l:List Int}{a b:Int}{j:Nat}(hj:j<l.length)(h:Zat (l.getD j 0) a b=false):Zbs l a b=2:=by
 unfold Zbs
 rw[if_neg]
 intro hh
 have:=List.all_eq_true.1 hh _ (ZgO (d:=0) hj)
 rw[h]at this;cases this
section
variable {C:Ctx}(hC:C.P=Try.prog)(m p q:Int)(so:List Int)(ps:List AV)(h:OkC m p q so)(hn:ps.length=Zaa so+1)
include hC h hn
theorem V4(t:Nat)(ht:t≤Zaa so)(hl:(pR ps t).length=stS m)(r:AV)
 (h1:Zbs (pR ps t) (-1000000) 1000000=0→Ev C (ZeS m p q so ps (Zaa so) ((t+1:Nat):Int)) (ZdR m p q so ps (Zaa so) ((t+1:Nat):Int)) (ZaX 38 r none))
 (h2:Zbs (pR ps t) (-1000000) 1000000=2→r=.int .i64 2):
 ∀k s:Nat,s+k=stS m→(∀j,j<s→Zat ((pR ps t).getD j 0) (-1000000) 1000000=true)→
 Ev C (Zhr m p q so ps (Zaa so) t s) (Zfw m p q so ps (Zaa so) t s) (ZaX 38 r none):=by
 have hm:=(Zaj h.cv).1
 have h2':=ZaC hm
 have hmm:Za7 m=true:=decide_eq_true (by omega)
 obtain⟨hg,_,hl2,hl3⟩:=h.soft
 have hT:Zaa so≤303:=by unfold Zaa;omega
 have e1:AV.toIs (ps.getD t .top)=pR ps t:=rfl
 intro k
 induction k with
 |zero=>
  intro s hs hj
  have i:=h1 (ZqH fun j hj2=>hj j (by omega))
  refine tgo hC ZcV Zju ?_
  simp[Zdk,hmm,show ¬(s:Int)<stN m by omega]at i⊢
  exact⟨by omega,i⟩
 |succ k ih=>
  intro s hs hj
  have hs':s<stS m:=by omega
  refine tgo hC ZcV Zju ?_
  cases hw:Zat ((pR ps t).getD s 0) (-1000000) 1000000 with
  |true=>
   have i:=ih (s+1) (by omega) (fun j hj2=>by
    by_cases hjs:j=s
    ·subst hjs;exact hw
    ·exact hj j (by omega))
   simp[-List.getD_eq_getElem?_getD,Zdk,hmm,e1,hw,hl,hs',hn,show t<Zaa so+1 by omega,show(s:Int)<stN m by omega]at i⊢
   exact⟨by omega,i⟩
  |false=>
   have i:=h2 (ZwK (by omega) hw)
   simp[-List.getD_eq_getElem?_getD,Zdk,hmm,e1,hw,hl,hs',hn,show t<Zaa so+1 by omega,show(s:Int)<stN m by omega,i]
theorem V3:∀k t:Nat,t+k=Zaa so+1→(∀j,j<t→ZjQ m (pR ps j)=0)→Ev C (ZeS m p q so ps (Zaa so) t) (ZdR m p q so ps (Zaa so) t) (ZaX 38 (ZpQ m p q so ps k t) none):=by
 have hm:=(Zaj h.cv).1
 have h2:=ZaC hm
 have hmm:Za7 m=true:=decide_eq_true (by omega)
 obtain⟨hg,_,hl2,hl3⟩:=h.soft
 have hT:Zaa so≤303:=by unfold Zaa;omega
 intro k
 induction k with
 |zero=>
  intro t ht hj
  refine tgo hC ZcV ZiH ?_
  have hp:OkP m so ps:=by
   refine Zqp hm hn ?_
   have:∀k t,(∀j,t≤j→j<t+k→ZjQ m (pR ps j)=0)→ZbM m ps k t=0:=by
    intro k
    induction k with
    |zero=>intro t _;rfl
    |succ k ih=>intro t hh;rw[ZbM,if_pos (hh t (by omega) (by omega))];exact ih (t+1) (fun j a b=>hh j (by omega) (by omega))
   exact this _ _ (fun j _ hj2=>hj j (by omega))
  have i:=V0 hC m p q so ps h hp (Zaa so) 0 (by omega)
  simp[Zdy,show ¬(t:Int)≤(Zaa so:Int) by omega,ZpQ,ZbM]at i⊢
  exact i
 |succ k ih=>
  intro t ht hj
  refine tgo hC ZcV ZiH ?_
  have e1:AV.toIs (ps.getD t .top)=pR ps t:=rfl
  by_cases hl:(pR ps t).length=stS m
  ·have hl':((pR ps t).length:Int)=stN m:=by omega
   have er:ZjQ m (pR ps t)=Zbs (pR ps t) (-1000000) 1000000:=by
    unfold ZjQ Zay
    simp only[hl',decide_true,if_true,Za5]
    split<;>simp_all
   have i:=V4 hC m p q so ps h hn t (by omega) hl (ZpQ m p q so ps (k+1) t) (fun h0=>by
    have i:=ih (t+1) (by omega) (fun j hj2=>by
     by_cases hjt:j=t
     ·subst hjt;rw[er];exact h0
     ·exact hj j (by omega))
    rw[ZsG (by rw[er];exact h0)];exact i) (fun h0=>by
    rw[ZpZ (by rw[er,h0];decide),er,h0]) (stS m) 0 (by omega) (fun j hj=>by omega)
   simp[-List.getD_eq_getElem?_getD,Zdy,e1,hmm,hn,hl',show(t:Int)≤(Zaa so:Int) by omega,show t<Zaa so+1 by omega]at i⊢
   exact i
  ·have hl':¬((pR ps t).length:Int)=stN m:=by omega
   have er:ZjQ m (pR ps t)=10:=by
    unfold ZjQ Zay
    simp[hl',Za5]
   have e3:ZpQ m p q so ps (k+1) t=.int .i64 10:=by rw[ZpZ (by rw[er];decide),er]
   rw[e3]
   simp[-List.getD_eq_getElem?_getD,Zdy,e1,hmm,hn,hl',show(t:Int)≤(Zaa so:Int) by omega,show t<Zaa so+1 by omega]
end
theorem Zs1(m p q:Int)(so:List Int)(ps:List AV)(h:OkC m p q so):Zai Try.prog 38 [.agg (.gen [.int .i64 m, .int .i64 p, .int .i64 q]), .list (.ints .i64 so), .list (.big (.ints .i64) ps)] (.int .i64 (ptE m p q so ps)) none:=by
 have hT:=ZmG h
 have ht:((so.length:Nat):Int).tdiv 2=(Zaa so:Int):=rfl
 by_cases h3:ps.length=Zaa so+1
 ·have e4:ZpQ m p q so ps (Zaa so+1) 0=.int .i64 (ptE m p q so ps):=by
   unfold ZpQ ptE r38
   simp only[h3,if_true]
   by_cases a:ZbM m ps (Zaa so+1) 0=0
   ·cases b:obA m p q so ps (Zaa so) 0<;>simp[a]
   ·simp[a]
  refine start (Zqf m p q so ps) fun C hC=>tgo hC ZcV ZA1 ?_
  have i:=V3 hC m p q so ps h h3 (Zaa so+1) 0 (by omega) (fun j hj=>by omega)
  rw[e4]at i
  simp only[Zvt,Zn6,ZoJ,Zoh,ht]
  simp[h3]at i⊢
  exact⟨by omega,i⟩
 ·have e4:ptE m p q so ps=10:=by simp[ptE,h3]
  have h4:¬(ps.length:Int)=(Zaa so:Int)+1:=by omega
  refine start (Zqf m p q so ps) fun C hC=>tgo hC ZcV ZA1 ?_
  simp only[Zvt,Zn6,ZoJ,Zoh,ht]
  simp[h4,e4]
  omega
def bnI(ps:List AV):Int:=(pR ps (ps.length-1)).getD 0 0-(pR ps 0).getD 0 0
def bnB(ps:List AV):Bool:=decide (0<ps.length∧ps.length≤1000000∧0<(pR ps (ps.length-1)).length∧0<(pR ps 0).length∧ -1000000≤(pR ps (ps.length-1)).getD 0 0∧(pR ps (ps.length-1)).getD 0 0≤1000000∧ -1000000≤(pR ps 0).getD 0 0∧(pR ps 0).getD 0 0≤1000000)
theorem Zr7(ps:List AV)(h:bnB ps=true):Zai Try.prog 39 [.list (.big (.ints .i64) ps)] (.int .i64 (bnI ps)) none:=by
 obtain⟨h1,h2,h3,h4,h5,h6,h7,h8⟩:=of_decide_eq_true h
 refine start (ZwG ps) fun C hC=>tgo hC ZcV ZEH ?_
 have e1:AV.toIs (ps.getD (ps.length-1) .top)=pR ps (ps.length-1):=rfl
 have e2:AV.toIs (ps.getD 0 .top)=pR ps 0:=rfl
 have k1:((ps.length:Int)-1).toNat=ps.length-1:=by omega
 simp[-List.getD_eq_getElem?_getD,ZyF,k1,e1,e2,bnI,h1,h3,h4]
 omega
def rlP(ps:List AV):Bool:=ps.all fun v=>decide (v.toIs.length≤1000000)
theorem Zu8{ps:List AV}(h:rlP ps=true):rlB ps:=fun t=>by
 unfold pR
 by_cases ht:t<ps.length
 ·exact of_decide_eq_true (List.all_eq_true.1 h _ (ZgO (d:=.top) ht))
 ·rw[List.getD_eq_getElem?_getD,List.getElem?_eq_none (by omega)];simp[AV.toIs]
def cpR(ps:List AV)(k:Nat):List (List Int):=(List.range k).map (pR ps)
section
variable {C:Ctx}(hC:C.P=Try.prog)(ps:List AV)(hl:ps.length≤1000000)(hrl:rlB ps)
include hC hl hrl
theorem C88:∀k t:Nat,t+k=ps.length→Ev C (Zhu ps t (List.range t) (cpR ps t)) (Zfn ps t (List.range t) (cpR ps t)) (ZaX 88 (.list (.gen ((cpR ps ps.length).map fun l=>.list (.ints .i64 l)))) none):=by
 intro k
 induction k with
 |zero=>
  intro t ht
  refine tgo hC ZcV Zi4 ?_
  have e:(List.range t).map (fun j=>AV.list (.ints .i64 ((cpR ps t).getD j [])))=(cpR ps ps.length).map fun l=>.list (.ints .i64 l):=by
   rw[show ps.length=t by omega]
   unfold cpR
   rw[List.map_map]
   refine List.map_congr_left fun j hj=>?_
   have:=List.mem_range.1 hj
   rw[List.getD_eq_getElem?_getD,List.getElem?_map,List.getElem?_range this];rfl
  simp only[ZfS,e]
  simp[show ¬(t:Int)<ps.length by omega]
 |succ k ih=>
  intro t ht
  refine tgo hC ZcV Zi4 ?_
  have i:=ih (t+1) (by omega)
  have e1:AV.toIs (ps.getD t .top)=pR ps t:=rfl
  have e2:cpR ps (t+1)=cpR ps t++[pR ps t]:=by unfold cpR;rw[List.range_succ,List.map_append];rfl
  have e3:(cpR ps t).length=t:=by simp[cpR]
  have hr:=hrl t
  rw[e2,List.range_succ]at i
  simp[-List.getD_eq_getElem?_getD,ZfS,e1,e3,hr,show(t:Int)<ps.length by omega,show t<ps.length by omega,AV.bx,Zao]at i⊢
  exact⟨by omega,i⟩
end
theorem Zs2(ps:List AV)(hl:ps.length≤1000000)(hrl:rlB ps):Zai Try.prog 88 [.list (.big (.ints .i64) ps)] (.list (.big (.ints .i64) ps)) none:=by
 have h:Zai Try.prog 88 [.list (.big (.ints .i64) ps)] (.list (.gen ((cpR ps ps.length).map fun l=>.list (.ints .i64 l)))) none:=by
  refine start (Zwm ps) fun C hC=>tgo hC ZcV ZEu ?_
  have i:=C88 hC ps hl hrl ps.length 0 (by omega)
  simpa[ZzU,cpR]using i
 refine Zq8 h ?_
 simp only[Row.elems,cpR,List.map_map]
 apply List.ext_getElem?
 intro i
 rw[List.getElem?_map,List.getElem?_map]
 by_cases hi:i<ps.length
 ·rw[List.getElem?_range hi,List.getElem?_eq_getElem hi]
  simp[Sh.view,Sh.view1,pR,List.getD_eq_getElem?_getD,List.getElem?_eq_getElem hi]
 ·rw[List.getElem?_eq_none (by simp;omega),List.getElem?_eq_none (by omega)];rfl
def k35:Ctr:=⟨35,0,fun _ a=>match a with |[.agg (.gen [.int .i64 m, .int .i64 p, .int .i64 q]), .list (.ints .i64 so), .list (.big (.ints .i64) ps)]=>some (decide (so.length≤1000000∧rlP ps=true), .tup [.int .i64 (pdI m p q so ps), .int .i64 (pdE m p q so ps)],none) |_=>none⟩
theorem ZCi:k35.OK Try.prog:=fun pa args r fr h=>by
 simp only[k35]at h
 split at h
 ·simp only[Option.some.injEq,Prod.mk.injEq,decide_eq_true_eq]at h
  obtain⟨h0,rfl,rfl⟩:=h
  exact Ztw _ _ _ _ _ h0.1 (Zu8 h0.2)
 ·cases h
def k38:Ctr:=⟨38,0,fun _ a=>match a with |[.agg (.gen [.int .i64 m, .int .i64 p, .int .i64 q]), .list (.ints .i64 so), .list (.big (.ints .i64) ps)]=>some (decide (okI m p q so=true), .int .i64 (ptE m p q so ps),none) |_=>none⟩
theorem ZCc:k38.OK Try.prog:=fun pa args r fr h=>by
 simp only[k38]at h
 split at h
 ·simp only[Option.some.injEq,Prod.mk.injEq,decide_eq_true_eq]at h
  obtain⟨h0,rfl,rfl⟩:=h
  exact Zs1 _ _ _ _ _ (okI_iff.1 h0)
 ·cases h
def k39:Ctr:=⟨39,0,fun _ a=>match a with |[.list (.big (.ints .i64) ps)]=>some (decide (bnB ps=true), .int .i64 (bnI ps),none) |_=>none⟩
theorem ZCp:k39.OK Try.prog:=fun pa args r fr h=>by
 simp only[k39]at h
 split at h
 ·simp only[Option.some.injEq,Prod.mk.injEq,decide_eq_true_eq]at h
  obtain⟨h0,rfl,rfl⟩:=h
  exact Zr7 _ h0
 ·cases h
def k88:Ctr:=⟨88,0,fun _ a=>match a with |[.list (.big (.ints .i64) ps)]=>some (decide (ps.length≤1000000∧rlP ps=true), .list (.big (.ints .i64) ps),none) |_=>none⟩
theorem Zzi:k88.OK Try.prog:=fun pa args r fr h=>by
 simp only[k88]at h
 split at h
 ·simp only[Option.some.injEq,Prod.mk.injEq,decide_eq_true_eq]at h
  obtain⟨h0,rfl,rfl⟩:=h
  exact Zs2 _ h0.1 (Zu8 h0.2)
 ·cases h
def Ja:List Ctr:=[k35,k38,k39,k88]++J9
theorem Zyx:ZaP Try.prog Ja:=⟨ZCi,⟨ZCc,⟨ZCp,⟨Zzi,ZD7⟩⟩⟩⟩
end Go.Proofs.Ytklbmkllepkjcaa
/- Paths of functions, printed by the explorer (Gx). No condition. -/
namespace Go.Proofs.Ytklbmkllepkjcaa
set_option maxRecDepth 100000
set_option linter.unusedVariables false
def ZyC(ps:List AV):AFrame:={ fn:=36,N:=5,env:=[(0,AV.list (Row.big (.ints .i64) ps))],todo:=[.code a36.code],defs:=[],rnd:=none,ret:=false,res:=[ARes.tmp 2] }
def ZGe(ps:List AV):List AFrame:=[(ZyC ps)]
theorem ZxG(ps:List AV):Zas tab 36 [AV.list (Row.big (.ints .i64) ps)]=some (ZyC ps):=rfl
def ZCk(A:Ar)(K:KT)(F:FT)(ps:List AV):Prop:=rB [decide (List.length ps≤1000000∧rlP ps=true)] (F (AV.list (Row.big (.ints .i64) ps)) (none))
theorem ZEh{A:Ar}{K:KT}{F:FT}{M:MT}{ps:List AV} :Zap A tab Ja 36 K F M (.run 11 (.fn)) (ZGe ps) []=ZCk A K F ps:=by kernel_rfl
end Go.Proofs.Ytklbmkllepkjcaa
/- Contracts as a list. No condition. -/
namespace Go.Proofs.Ytklbmkllepkjcaa
theorem Zty(ps:List AV)(h:ps.length≤1000000∧rlP ps=true):Zai Try.prog 36 [.list (.big (.ints .i64) ps)] (.list (.big (.ints .i64) ps)) none:=
 start (ZxG ps) fun C hC=>tgo hC Zyx ZEh (by simp[ZCk,h])
def k36:Ctr:=⟨36,0,fun _ a=>match a with |[.list (.big (.ints .i64) ps)]=>some (decide (ps.length≤1000000∧rlP ps=true), .list (.big (.ints .i64) ps),none) |_=>none⟩
theorem ZyG:k36.OK Try.prog:=fun pa args r fr h=>by
 simp only[k36]at h
 split at h
 ·simp only[Option.some.injEq,Prod.mk.injEq,decide_eq_true_eq]at h
  obtain⟨h0,rfl,rfl⟩:=h
  exact Zty _ h0
 ·cases h
def k14v:Ctr:=⟨14,0,fun _ a=>match a with |[.list (.ints .i64 xs)]=>some (decide (xs.length≤1000000), .list (.ints .i64 xs),ZxN) |_=>none⟩
theorem ZvD:k14v.OK Try.prog:=fun pa args r fr h=>by
 simp only[k14v]at h
 split at h
 ·simp only[Option.some.injEq,Prod.mk.injEq,decide_eq_true_eq]at h
  obtain⟨h0,rfl,rfl⟩:=h
  exact Zxw (ZkS _ h0) rfl rfl
 ·cases h
def Jb:List Ctr:=[k36,k14v]++Ja
theorem Zvn:ZaP Try.prog Jb:=⟨ZyG,⟨ZvD,Zyx⟩⟩
end Go.Proofs.Ytklbmkllepkjcaa
/- Paths of functions, printed by the explorer (Gx). No condition. -/
namespace Go.Proofs.Ytklbmkllepkjcaa
set_option maxRecDepth 100000
set_option linter.unusedVariables false
def ZFH(m g0 g1:Int)(xs:List Int)(ps:List AV):AFrame:={ fn:=6,N:=115,env:=[(0,AV.agg (Row.gen [.int .i64 m, .int .i64 g0, .int .i64 g1])),(1,AV.list (.ints .i64 xs)),(2,AV.list (Row.big (.ints .i64) ps))],todo:=[.code a6.code],defs:=[],rnd:=none,ret:=false,res:=[ARes.tmp 6] }
def f6e(m g0 g1:Int)(xs:List Int)(ps:List AV):List AFrame:=[(ZFH m g0 g1 xs ps)]
theorem ZyD(m g0 g1:Int)(xs:List Int)(ps:List AV):Zas tab 6 [AV.agg (Row.gen [.int .i64 m, .int .i64 g0, .int .i64 g1]),AV.list (.ints .i64 xs),AV.list (Row.big (.ints .i64) ps)]=some (ZFH m g0 g1 xs ps):=rfl
def ZjC(m g0 g1:Int)(xs:List Int)(ps:List AV)(n0:Int):List AFrame:=[{ fn:=6,N:=115,env:=[(1,AV.list (.ints .i64 xs)),(2,AV.list (Row.big (.ints .i64) ps)),(3,AV.ptr 6004 0 0 0),(7,AV.int .i64 n0)],todo:=.code (ACode.gh [] ZFi)::ZGp,defs:=[],rnd:=none,ret:=false,res:=[ARes.tmp 6] }]
def ZgQ(m g0 g1:Int)(xs:List Int)(ps:List AV)(n0:Int):Zac:=[(6004,{ base:=0,blks:=[Blk.row 24 3 (Row.gen [AV.agg (Row.gen [AV.int .i64 m,AV.int .i64 g0,AV.int .i64 g1])])] })]
abbrev Zm0(m g0 g1:Int)(xs:List Int)(ps:List AV)(n0:Int):List AFrame×Zac:=(ZjC m g0 g1 xs ps n0,ZgQ m g0 g1 xs ps n0)
def ZC8(A:Ar)(K:KT)(F:FT)(m g0 g1:Int)(xs:List Int)(ps:List AV):Prop:=rB [!A.not true] (bB (A.lt 40 (A.int (A.len xs))) (F (AV.bool true) (none)) (bB (A.lt 24 (A.int (A.lenA ps))) (F (AV.bool true) (none)) (K (Zm0 (m) (g0) (g1) (xs) (ps) (0)))))
theorem ZF8{A:Ar}{K:KT}{F:FT}{M:MT}{m g0 g1:Int}{xs:List Int}{ps:List AV} :Zap A tab Jb 6 K F M (.run 11 (.fy (.run 8 (.tf (.ty (.ty (.ty (.run 2 (.ty (.run 5 (.fn))))))) (.fy (.fy (.fy (.run 2 (.tf (.run 5 (.fn)) (.run 9 (.hd))))))))))) (f6e m g0 g1 xs ps) []=ZC8 A K F m g0 g1 xs ps:=by kernel_rfl
def ZdJ(A:Ar)(K:KT)(F:FT)(m g0 g1:Int)(xs:List Int)(ps:List AV)(n0:Int):Prop:=bB (A.lt n0 (A.int (A.lenA ps))) (rB [Zae (Zae (A.le 0 n0) (Nat.blt (A.nat n0) (A.lenA ps))) true] (bB (A.lt 10 (A.int (A.len (AV.toIs (A.nthA ps (A.nat n0)))))) (F (AV.bool true) (none)) (rB [A.inR .i64 (A.add n0 1)] (K (Zm0 (m) (g0) (g1) (xs) (ps) (A.add n0 1)))))) (rB [decide (List.length xs≤1000000),decide (List.length xs≤1000000),decide (List.length xs≤1000000∧rlP ps=true),decide (List.length ps≤1000000∧rlP ps=true),decide (List.length xs≤1000000)] (bB (A.not (A.eq (cdE m g0 g1 xs) 0)) (bB (A.eq (pdE m g0 g1 xs ps) (cdE m g0 g1 xs)) (bB (A.eq (cdW m g0 g1 xs) (cdE m g0 g1 xs)) (bB (A.eq (pdI m g0 g1 xs ps) 0) (F (AV.bool (A.eq (A.int (A.lenA (poL m g0 g1 xs))) 0)) (none)) (False)) (False)) (False)) (bB (A.not (A.eq (cdW m g0 g1 xs) 0)) (False) (rB [decide (okI m g0 g1 xs=true)] (bB (A.not (A.eq (ptE m g0 g1 xs (poL m g0 g1 xs)) 0)) (False) (rB [decide (bnB (poL m g0 g1 xs)=true),decide (okI m g0 g1 xs=true)] (bB (A.not (A.eq (bnI (poL m g0 g1 xs)) (bvI m g0 g1 xs))) (False) (rB [decide (okI m g0 g1 xs=true)] (bB (A.not (A.eq (ptE m g0 g1 xs ps) 0)) (bB (A.eq (pdE m g0 g1 xs ps) (ptE m g0 g1 xs ps)) (F (AV.bool (A.eq (pdI m g0 g1 xs ps) 0)) (none)) (False)) (bB (A.eq (pdE m g0 g1 xs ps) 0) (rB [decide (bnB ps=true)] (F (AV.bool (A.eq (pdI m g0 g1 xs ps) (bnI ps))) (none))) (False)))))))))))
theorem ZmZ{A:Ar}{K:KT}{F:FT}{M:MT}{m g0 g1:Int}{xs:List Int}{ps:List AV}{n0:Int} :Zap A tab Jb 6 K F M (.run 9 (.tf (.run 12 (.tf (.run 5 (.fn)) (.run 9 (.hd)))) (.run 20 (.tf (.run 6 (.tf (.ty (.ty (.ty (.run 1 (.tf (.ty (.ty (.run 1 (.tf (.ty (.ty (.ty (.run 4 (.fn))))) (.fy (.fy (.fy (.run 4 (.no))))))))) (.fy (.fy (.run 1 (.fy (.fy (.fy (.fy (.run 4 (.no)))))))))))))) (.fy (.fy (.fy (.run 1 (.fy (.fy (.fy (.run 1 (.fy (.fy (.fy (.fy (.run 4 (.no)))))))))))))))) (.run 7 (.tf (.ty (.ty (.ty (.ty (.ty (.run 2 (.ty (.run 5 (.no))))))))) (.fy (.fy (.fy (.fy (.fy (.run 2 (.tf (.run 5 (.no)) (.run 21 (.tf (.run 5 (.no)) (.run 15 (.tf (.run 6 (.tf (.ty (.ty (.run 4 (.fn)))) (.fy (.fy (.run 4 (.no)))))) (.run 6 (.tf (.ty (.ty (.ty (.ty (.run 4 (.fn)))))) (.fy (.fy (.fy (.fy (.run 4 (.no))))))))))))))))))))))))) (ZjC m g0 g1 xs ps n0) (ZgQ m g0 g1 xs ps n0)=ZdJ A K F m g0 g1 xs ps n0:=by kernel_rfl
end Go.Proofs.Ytklbmkllepkjcaa
/- Ways through the trellis: no metric is greater than the bound of potentials; the best bits attain theirs, and come first; the forward potentials prove it. No condition. -/
namespace Go.Proofs.Ytklbmkllepkjcaa
section
variable (m p q:Int)(so:List Int)
def ZdV:Nat→Nat→List Int→Int
 |_,_,[]=>0
 |t,s,b::bs=>gnI m p q so t s b+ZdV (t+1) (nxS m s b).toNat bs
def Zo7:Nat→List Int→Nat
 |s,[]=>s
 |s,b::bs=>Zo7 (nxS m s b).toNat bs
def okW:Nat→List Int→Prop
 |_,[]=>True
 |t,b::bs=>(b=0∨b=1∧t<ZaI m so)∧okW (t+1) bs
end
theorem ZlX{m:Int}{so:List Int} :∀ {a:List Int} {t:Nat},ZeP a=true→t+a.length≤ZaI m so→okW m so t a
 |[],_,_,_=>trivial
 |b::a,t,h,hl=>by
  have h':(decide (b=0∨b=1)&&ZeP a)=true:=h
  rw[Bool.and_eq_true]at h'
  have hb:=of_decide_eq_true h'.1
  simp only[List.length_cons]at hl
  exact⟨by omega,ZlX h'.2 (by omega)⟩
theorem Znb{m:Int}{so:List Int} :∀(n t:Nat),okW m so t (List.replicate n 0)
 |0,_=>trivial
 |n+1,t=>⟨Or.inl rfl,Znb n (t+1)⟩
theorem Zqz{m:Int}{so:List Int} :∀ {a b:List Int} {t:Nat},okW m so t a→okW m so (t+a.length) b→okW m so t (a++b)
 |[],b,t,_,h=>by simpa using h
 |x::a,b,t,h1,h2=>by
  refine⟨h1.1,Zqz h1.2 ?_⟩
  rw[show t+1+a.length=t+(x::a).length by simp;omega];exact h2
theorem ZxK{m:Int}{so:List Int}{bs:List Int}(h:ZeP bs=true)(hl:bs.length=ZaI m so):okW m so 0 (bs++List.replicate m.toNat 0):=
 Zqz (ZlX h (by omega)) (Znb _ _)
theorem Zw6{m p q:Int}{so:List Int}{n s:Nat}(hs:s<stS m){b:Int}(hb:b=0∨b=1∧Zaa so-1-n<ZaI m so):gnI m p q so (Zaa so-1-n) s b+(dpP m p q so n).getD (nxS m s b).toNat 0≤(dpP m p q so (n+1)).getD s 0:=by
 rw[Zj7 m p q so hs,Zm5]
 unfold upP
 rcases hb with rfl |⟨rfl,hb⟩
 ·split<;>omega
 ·rw[if_pos hb];omega
section
variable {m p q:Int}{so:List Int}(h:OkC m p q so)
include h
theorem Znm:∀(bs:List Int) (t s:Nat),s<stS m→ZeP bs=true→Zyo so (2*t) (ZC3 m p q s bs)=ZdV m p q so t s bs
 |[],_,_,_,_=>rfl
 |b::bs,t,s,hs,hb=>by
  have h':(decide (b=0∨b=1)&&ZeP bs)=true:=hb
  rw[Bool.and_eq_true]at h'
  have hbb:=of_decide_eq_true h'.1
  obtain⟨s1,s2,s3⟩:=ZaG h hs hbb
  have i:=Znm bs (t+1) (nxS m s b).toNat s3 h'.2
  rw[Int.toNat_of_nonneg s2]at i
  rw[ZC3,Zyo,Zyo,ZdV,←i,show 2*(t+1)=2*t+1+1 by omega,←Int.add_assoc,Zoy so t (Zcl m p s b) (Zcl m q s b)];rfl
theorem Zra:∀(bs:List Int) (t s:Nat),s<stS m→okW m so t bs→Zo7 m s bs<stS m
 |[],_,_,hs,_=>hs
 |b::bs,t,s,hs,hw=>Zra bs (t+1) _ (ZaG h hs (by have:=hw.1;omega)).2.2 hw.2
theorem Zkn{P:Nat→List Int}{T:Nat}(hob:∀t s b,t<T→s<stS m→(b=0∨b=1∧t<ZaI m so)→(P t).getD s 0+gnI m p q so t s b≤(P (t+1)).getD (nxS m s b).toNat 0):
 ∀(bs:List Int) (t s:Nat),s<stS m→okW m so t bs→t+bs.length≤T→(P t).getD s 0+ZdV m p q so t s bs≤(P (t+bs.length)).getD (Zo7 m s bs) 0
 |[],t,s,_,_,_=>by simp[ZdV,Zo7]
 |b::bs,t,s,hs,hw,hl=>by
  simp only[List.length_cons]at hl
  have hb:=hw.1
  have h1:=hob t s b (by omega) hs hb
  have i:=Zkn hob bs (t+1) (nxS m s b).toNat (ZaG h hs (by omega)).2.2 hw.2 (by omega)
  rw[show t+1+bs.length=t+(b::bs).length by simp;omega]at i
  rw[ZdV,Zo7]
  omega
end
theorem Zpv(m:Int)(s:Nat):(nxS m s 0).toNat=s/2:=by
 unfold nxS Zpd
 rw[Int.zero_mul,Int.zero_add];omega
theorem Zhq(m:Int):∀(n s:Nat),Zo7 m s (List.replicate n 0)=s/2^n
 |0,s=>by simp[Zo7]
 |n+1,s=>by rw[List.replicate_succ,Zo7,Zhq m n,Zpv,Nat.div_div_eq_div_mul,Nat.pow_succ,Nat.mul_comm]
theorem Zne(m:Int):∀(a b:List Int) (s:Nat),Zo7 m s (a++b)=Zo7 m (Zo7 m s a) b
 |[],_,_=>rfl
 |_::a,b,_=>Zne m a b _
section
variable {m p q:Int}{so:List Int}(h:OkC m p q so)
include h
theorem Zwo:stS m=2^m.toNat:=by
 have hm:=(Zaj h.cv).1
 rcases hm with rfl |rfl |rfl<;>rfl
theorem ZnQ{s:Nat}(hs:s<stS m):Zo7 m s (List.replicate m.toNat 0)=0:=by
 rw[Zhq]
 rw[Zwo h]at hs
 exact Nat.div_eq_of_lt hs
theorem Zlh:ZaI m so+m.toNat=Zaa so∧Zaa so≤303∧so.length=2*Zaa so:=by
 have hm:=(Zaj h.cv).1
 obtain⟨_,hl1,hl2,hl3⟩:=h.soft
 unfold ZaI Zaa;omega
theorem ZnR{bs:List Int}(hb:ZeP bs=true):Zyo so 0 (ZFr m p q bs)=ZdV m p q so 0 0 (bs++List.replicate m.toNat 0):=by
 have h2:=ZaC (Zaj h.cv).1
 exact Znm h (bs++List.replicate m.toNat 0) 0 0 (by omega) (ZsS hb (Zud _))
theorem Zsf{bs:List Int}(hb:ZeP bs=true)(hl:bs.length=ZaI m so):Zo7 m 0 (bs++List.replicate m.toNat 0)=0:=by
 have h2:=ZaC (Zaj h.cv).1
 rw[Zne]
 exact ZnQ h (Zra h bs 0 0 (by omega) (ZlX hb (by omega)))
theorem Zrw:∀(n s:Nat),n≤m.toNat→s<stS m→s/2^n=0→(dpP m p q so n).getD s 0=ZdV m p q so (Zaa so-n) s (List.replicate n 0)
 |0,s,_,hs,h0=>by
  rw[ZjD m p q so hs,if_pos (by simpa using h0)];rfl
 |n+1,s,hn,hs,h0=>by
  obtain⟨z1,z2,z3⟩:=Zlh h
  obtain⟨s1,s2,s3⟩:=ZaG h hs (b:=0) (Or.inl rfl)
  have e:(nxS m s 0).toNat/2^n=0:=by rw[Zpv,Nat.div_div_eq_div_mul,Nat.mul_comm,←Nat.pow_succ];exact h0
  have i:=Zrw n (nxS m s 0).toNat (by omega) s3 e
  have hb:=Zcj h (n:=n) (by omega) s3
  rw[Zj7 m p q so hs,Zm5,if_neg (by omega),upP,List.replicate_succ,ZdV,i,show Zaa so-1-n=Zaa so-(n+1) by omega,show Zaa so-(n+1)+1=Zaa so-n by omega]
  have hm:=(Zaj h.cv).1
  obtain⟨hg,_⟩:=h.soft
  have g:=Zcy (m:=m) (p:=p) (q:=q) hg (Zaa so-(n+1)) s 0
  have lo: -14*(n:Int)≤ZdV m p q so (Zaa so-n) (nxS m s 0).toNat (List.replicate n 0):=by
   have key:∀(bs:List Int) (t s:Nat), -14*(bs.length:Int)≤ZdV m p q so t s bs:=by
    intro bs
    induction bs with
    |nil=>intro t s;simp[ZdV]
    |cons b bs ih=>
     intro t s
     have:=ih (t+1) (nxS m s b).toNat
     have g:=Zcy (m:=m) (p:=p) (q:=q) hg t s b
     rw[ZdV,List.length_cons];omega
   have:=key (List.replicate n 0) (Zaa so-n) (nxS m s 0).toNat
   simpa using this
  omega
theorem Zpi:∀(j t s:Nat),t+j=ZaI m so→s<stS m→ -14*((Zaa so-t:Nat):Int)≤(dpR m p q so (Zaa so-t)).getD s 0→
 ZdV m p q so t s (tbP m p q so j t s++List.replicate m.toNat 0)=(dpP m p q so (Zaa so-t)).getD s 0∧ZeP (tbP m p q so j t s)=true∧(tbP m p q so j t s).length=j
 |0,t,s,ht,hs,_=>by
  obtain⟨z1,z2,z3⟩:=Zlh h
  have e:Zaa so-t=m.toNat:=by omega
  rw[e,Zrw h m.toNat s (Nat.le_refl _) hs (by rw[←Zhq m];exact ZnQ h hs),show Zaa so-m.toNat=t by omega]
  exact⟨rfl,rfl,rfl⟩
 |j+1,t,s,ht,hs,hw=>by
  obtain⟨hg,_⟩:=h.soft
  obtain⟨z1,z2,z3⟩:=Zlh h
  have hg0:=Zcy (m:=m) (p:=p) (q:=q) hg t s 0
  have hg1:=Zcy (m:=m) (p:=p) (q:=q) hg t s 1
  obtain⟨_,a2,a3⟩:=ZaG h hs (b:=0) (Or.inl rfl)
  obtain⟨_,b2,b3⟩:=ZaG h hs (b:=1) (Or.inr rfl)
  obtain⟨n,hn⟩:∃n,Zaa so-t=n+1:=⟨Zaa so-t-1,by omega⟩
  have hn1:Zaa so-t-1=n:=by omega
  have w:=ZeF h (n+1) (by omega) s hs
  have w0:=ZeF h n (by omega) _ a3
  have w1:=ZeF h n (by omega) _ b3
  have e0:=ZeZ m p q so hs (n:=n)
  rw[show Zaa so-1-n=t by omega,Zic,if_pos (by omega),upR,upR]at e0
  have i0:=Zpi j (t+1) (nxS m s 0).toNat (by omega) a3
  have i1:=Zpi j (t+1) (nxS m s 1).toNat (by omega) b3
  rw[show Zaa so-(t+1)=n by omega]at i0 i1
  rw[hn]at hw
  obtain⟨r1,r2,r3⟩:=Zm2 (by omega) w w0 w1 hg0 hg1 hw e0
  rw[tbP,hn1,hn]
  by_cases hq:(dpR m p q so n).getD (nxS m s 0).toNat 0+gnI m p q so t s 0=(dpR m p q so (n+1)).getD s 0
  ·obtain⟨c1,c2,c3⟩:=i0 (r2 hq)
   rw[if_pos (r1.2 hq),List.cons_append,ZdV,c1]
   exact⟨by have:=r1.2 hq;omega,c2,by rw[List.length_cons,c3]⟩
  ·obtain⟨d1,d2⟩:=r3 hq
   obtain⟨c1,c2,c3⟩:=i1 d2
   rw[if_neg (fun e=>hq (r1.1 e)),if_pos d1,List.cons_append,ZdV,c1]
   exact⟨by omega,c2,by rw[List.length_cons,c3]⟩
theorem ZtV:Zyo so 0 (ZFr m p q (blI m p q so))=bvI m p q so∧ZeP (blI m p q so)=true∧(blI m p q so).length=ZaI m so:=by
 have h2:=ZaC (Zaj h.cv).1
 have hz:=ZcP h (Zaa so) (Nat.le_refl _)
 obtain⟨a,b,c⟩:=Zpi h (ZaI m so) 0 0 (by omega) (by omega) (by simpa using hz)
 obtain⟨d,e⟩:=Zka h
 rw[d]at a b c
 rw[Nat.sub_zero,e]at a
 exact⟨by rw[ZnR h b,a],b,c⟩
end
end Go.Proofs.Ytklbmkllepkjcaa
/- The forward metrics are potentials; their bound is the best metric. No condition. -/
namespace Go.Proofs.Ytklbmkllepkjcaa
section
variable {m p q:Int}{so:List Int}
theorem ZbX(l:List Int)(i j:Nat)(x:Int):(l.set i x).getD j 0=if i=j∧j<l.length then x else l.getD j 0:=by
 rw[List.getD_eq_getElem?_getD,List.getElem?_set,List.getD_eq_getElem?_getD]
 by_cases h:i=j
 ·subst h
  by_cases h2:i<l.length
  ·simp[h2]
  ·simp[h2]
 ·simp[h]
theorem Zrp(D acc:List Int)(t s:Nat)(b:Int)(j:Nat):acc.getD j 0≤(Zkk m p q so D t s b acc).getD j 0:=by
 unfold Zkk
 rw[ZbX]
 split
 ·rename_i h;rw[h.1];omega
 ·omega
theorem Zu0(D acc:List Int)(t s:Nat)(b:Int)(hl:(nxS m s b).toNat<acc.length):D.getD s 0+gnI m p q so t s b≤(Zkk m p q so D t s b acc).getD (nxS m s b).toNat 0:=by
 unfold Zkk
 rw[ZbX,if_pos ⟨rfl,hl⟩];omega
theorem Zxl(D acc:List Int)(t s:Nat)(j:Nat):acc.getD j 0≤(ZhK m p q so D t s acc).getD j 0:=by
 have h1:=Zrp (m:=m) (p:=p) (q:=q) (so:=so) D acc t s 0 j
 have h2:=Zrp (m:=m) (p:=p) (q:=q) (so:=so) D (Zkk m p q so D t s 0 acc) t s 1 j
 unfold ZhK
 split<;>omega
end
theorem ZpN{m p q:Int}{so:List Int}{D acc:List Int}{t s:Nat}{b B:Int}(ht:t<Zaa so)(hs:s<stS m)(hb:b=0∨b=1∧t<ZaI m so)(hD:D.getD s 0+(dpP m p q so (Zaa so-t)).getD s 0≤B)(ha:∀j,j<stS m→acc.getD j 0+(dpP m p q so (Zaa so-(t+1))).getD j 0≤B):
 ∀j,j<stS m→(Zkk m p q so D t s b acc).getD j 0+(dpP m p q so (Zaa so-(t+1))).getD j 0≤B:=fun j hj=>by
 unfold Zkk
 rw[ZbX]
 split
 ·rename_i e
  have d:=Zw6 (m:=m) (p:=p) (q:=q) (so:=so) (n:=Zaa so-(t+1)) (s:=s) (b:=b) hs (by rw[show Zaa so-1-(Zaa so-(t+1))=t by omega];exact hb)
  rw[show Zaa so-1-(Zaa so-(t+1))=t by omega,show Zaa so-(t+1)+1=Zaa so-t by omega,e.1]at d
  have a:=ha j hj
  rw[e.1];omega
 ·exact ha j hj
section
variable {m p q:Int}{so:List Int}(h:OkC m p q so)
include h
theorem ZnO(D:List Int)(t:Nat):∀(k s:Nat),s<k→k≤stS m→∀b:Int,(b=0∨b=1∧t<ZaI m so)→D.getD s 0+gnI m p q so t s b≤(Zje m p q so D t k).getD (nxS m s b).toNat 0
 |0,s,hs,_,_,_=>by omega
 |k+1,s,hs,hk,b,hb=>by
  have hbb:b=0∨b=1:=by omega
  by_cases hsk:s=k
  ·subst hsk
   have h3:=(ZaG h (s:=s) (by omega) hbb).2.2
   have hl:=ZgF (m:=m) (p:=p) (q:=q) (so:=so) D t s
   rw[Zje,ZhK]
   rcases hb with rfl |⟨rfl,hb⟩
   ·have u:=Zu0 (m:=m) (p:=p) (q:=q) (so:=so) D (Zje m p q so D t s) t s 0 (by omega)
    split
    ·have:=Zrp (m:=m) (p:=p) (q:=q) (so:=so) D (Zkk m p q so D t s 0 (Zje m p q so D t s)) t s 1 (nxS m s 0).toNat
     omega
    ·exact u
   ·rw[if_pos hb]
    exact Zu0 D _ t s 1 (by rw[ZjR];omega)
  ·have i:=ZnO D t k s (by omega) (by omega) b hb
   have:=Zxl (m:=m) (p:=p) (q:=q) (so:=so) D (Zje m p q so D t k) t k (nxS m s b).toNat
   rw[Zje];omega
theorem ZqC(t s:Nat)(b:Int)(hs:s<stS m)(hb:b=0∨b=1∧t<ZaI m so):(fwP m p q so t).getD s 0+gnI m p q so t s b≤(fwP m p q so (t+1)).getD (nxS m s b).toNat 0:=by
 rw[fwP];exact ZnO h _ t (stS m) s hs (Nat.le_refl _) b hb
theorem ZAm: -14*((Zaa so:Nat):Int)≤bvI m p q so:=ZcP h (Zaa so) (Nat.le_refl _)
theorem Zqy{D:List Int}{t:Nat}{B:Int}(ht:t<Zaa so)(hB: -14*((Zaa so:Nat):Int)≤B)(hD:∀s,s<stS m→D.getD s 0+(dpP m p q so (Zaa so-t)).getD s 0≤B):∀k,k≤stS m→∀j,j<stS m→(Zje m p q so D t k).getD j 0+(dpP m p q so (Zaa so-(t+1))).getD j 0≤B
 |0,_,j,hj=>by
  obtain⟨z1,z2,z3⟩:=Zlh h
  have:=Zcj h (n:=Zaa so-(t+1)) (by omega) hj
  have e:(Zch m).getD j 0= -100000:=by unfold Zch;rw[List.getD_eq_getElem?_getD,List.getElem?_replicate,if_pos hj];rfl
  rw[Zje,e];omega
 |k+1,hk,j,hj=>by
  have i:=Zqy ht hB hD k (by omega)
  have i0:=ZpN ht (s:=k) (b:=0) (by omega) (Or.inl rfl) (hD k (by omega)) i
  rw[Zje,ZhK]
  split
  ·rename_i hb
   exact ZpN ht (s:=k) (b:=1) (by omega) (Or.inr ⟨rfl,hb⟩) (hD k (by omega)) i0 j hj
  ·exact i0 j hj
theorem Zu1:∀t,t≤Zaa so→∀s,s<stS m→(fwP m p q so t).getD s 0+(dpP m p q so (Zaa so-t)).getD s 0≤bvI m p q so
 |0,_,s,hs=>by
  obtain⟨z1,z2,z3⟩:=Zlh h
  have hb:=Zcj h (n:=Zaa so) (Nat.le_refl _) hs
  have lo:=ZAm h
  have e:=(Zka h).2
  unfold fwP
  rw[ZbX,Nat.sub_zero]
  split
  ·rename_i e0;rw[←e0.1,e];omega
  ·have e2:(Zch m).getD s 0= -100000:=by unfold Zch;rw[List.getD_eq_getElem?_getD,List.getElem?_replicate,if_pos hs];rfl
   rw[e2];omega
 |t+1,ht,s,hs=>by
  rw[fwP]
  exact Zqy h (by omega) (ZAm h) (Zu1 t (by omega)) (stS m) (Nat.le_refl _) s hs
theorem Zqv:(fwP m p q so 0).getD 0 0=0:=by
 have h2:=ZaC (Zaj h.cv).1
 unfold fwP
 rw[ZbX,if_pos ⟨rfl,by unfold Zch;rw[List.length_replicate];omega⟩]
theorem ZB4:(fwP m p q so (Zaa so)).getD 0 0=bvI m p q so:=by
 have h2:=ZaC (Zaj h.cv).1
 obtain⟨z1,z2,z3⟩:=Zlh h
 have a:=Zu1 h (Zaa so) (Nat.le_refl _) 0 (by omega)
 rw[Nat.sub_self,ZjD m p q so (by omega),if_pos rfl]at a
 obtain⟨b1,b2,b3⟩:=ZtV h
 have o:=Zkn h (P:=fwP m p q so) (T:=Zaa so) (fun t s b _ hs hb=>ZqC h t s b hs hb) (blI m p q so++List.replicate m.toNat 0) 0 0 (by omega) (ZxK b2 b3) (by simp;omega)
 rw[Zsf h b2 b3,←ZnR h b2,b1,Zqv h,List.length_append,List.length_replicate,b3,Nat.zero_add,z1]at o
 omega
end
theorem Zum{m p q:Int}{so:List Int}{ps:List AV}{t:Nat} :∀(k s:Nat),(obT m p q so ps t k s=true↔∀i,s≤i→i<s+k→∀b:Int,(b=0∨b=1∧t<ZaI m so)→(pR ps t).getD i 0+gnI m p q so t i b≤(pR ps (t+1)).getD (nxS m i b).toNat 0)
 |0,s=>by
  constructor
  ·intro _ i h1 h2;omega
  ·intro _;rfl
 |k+1,s=>by
  have ih:=Zum (m:=m) (p:=p) (q:=q) (so:=so) (ps:=ps) (t:=t) k (s+1)
  rw[obT,Bool.and_eq_true,ih]
  have e:obS m p q so ps t s=true↔∀b:Int,(b=0∨b=1∧t<ZaI m so)→(pR ps t).getD s 0+gnI m p q so t s b≤(pR ps (t+1)).getD (nxS m s b).toNat 0:=by
   unfold obS obB
   rw[Bool.and_eq_true,decide_eq_true_eq]
   by_cases ht:t<ZaI m so
   ·rw[if_pos ht,decide_eq_true_eq]
    constructor
    ·rintro⟨a,b⟩ x (rfl |⟨rfl,_⟩)
     ·exact a
     ·exact b
    ·intro a;exact⟨a 0 (Or.inl rfl),a 1 (Or.inr ⟨rfl,ht⟩)⟩
   ·rw[if_neg ht]
    constructor
    ·rintro⟨a,_⟩ x (rfl |⟨_,c⟩)
     ·exact a
     ·exact absurd c ht
    ·intro a;exact⟨a 0 (Or.inl rfl),rfl⟩
  rw[e]
  constructor
  ·rintro⟨a,b⟩ i h1 h2
   by_cases hi:i=s
   ·subst hi;exact a
   ·exact b i (by omega) (by omega)
  ·intro a
   exact⟨a s (by omega) (by omega),fun i h1 h2=>a i (by omega) (by omega)⟩
theorem ZqQ{m p q:Int}{so:List Int}{ps:List AV} :∀(k t:Nat),(obA m p q so ps k t=true↔∀j,t≤j→j<t+k→∀i,i<stS m→∀b:Int,(b=0∨b=1∧j<ZaI m so)→(pR ps j).getD i 0+gnI m p q so j i b≤(pR ps (j+1)).getD (nxS m i b).toNat 0)
 |0,t=>by
  constructor
  ·intro _ j h1 h2;omega
  ·intro _;rfl
 |k+1,t=>by
  have ih:=ZqQ (m:=m) (p:=p) (q:=q) (so:=so) (ps:=ps) k (t+1)
  rw[obA,Bool.and_eq_true,ih,Zum]
  constructor
  ·rintro⟨a,b⟩ j h1 h2 i hi
   by_cases hj:j=t
   ·subst hj;exact a i (by omega) (by omega)
   ·exact b j (by omega) (by omega) i hi
  ·intro a
   exact⟨fun i _ h2=>a t (by omega) (by omega) i (by omega),fun j h1 h2=>a j (by omega) (by omega)⟩
section
variable {m p q:Int}{so:List Int}{ps:List AV}(h:OkC m p q so)
include h
theorem ZDa(h0:ptE m p q so ps=0):OkP m so ps∧∀t s b,t<Zaa so→s<stS m→(b=0∨b=1∧t<ZaI m so)→(pR ps t).getD s 0+gnI m p q so t s b≤(pR ps (t+1)).getD (nxS m s b).toNat 0:=by
 unfold ptE at h0
 split at h0
 ·rename_i hn
  split at h0
  ·rename_i hr
   split at h0
   ·rename_i ho
    refine⟨Zqp (Zaj h.cv).1 hn hr,fun t s b ht hs hb=>?_⟩
    exact(ZqQ _ _).1 ho t (by omega) (by omega) s hs b hb
   ·cases h0
  ·rename_i hr;exact absurd h0 hr
 ·cases h0
theorem Zur(h0:ptE m p q so ps=0):bnB ps=true∧bnI ps=pbI so ps:=by
 have h2:=ZaC (Zaj h.cv).1
 obtain⟨z1,z2,z3⟩:=Zlh h
 obtain⟨hp,_⟩:=ZDa h h0
 have hn:=hp.n
 have e:ps.length-1=Zaa so:=by omega
 have l1:=hp.l (Zaa so) (Nat.le_refl _)
 have l2:=hp.l 0 (Nat.zero_le _)
 have r1:=hp.r (Zaa so) 0 (Nat.le_refl _)
 have r2:=hp.r 0 0 (Nat.zero_le _)
 refine⟨decide_eq_true ?_,?_⟩
 ·rw[e];omega
 ·unfold bnI pbI;rw[e]
end
section
variable {m p q:Int}{so:List Int}(h:OkC m p q so)
include h
theorem Zm3:cdW m p q so=0:=by rw[Zhn];unfold cdE;rw[h.cv];simp[h.sf]
theorem Zln{t:Nat}(ht:t≤Zaa so):pR (poL m p q so) t=fwP m p q so t:=by
 unfold pR poL
 rw[if_neg (fun e=>e (Zm3 h)),List.getD_eq_getElem?_getD,List.getElem?_map,List.getElem?_range (by omega)];rfl
theorem ZA2:(poL m p q so).length=Zaa so+1:=by
 unfold poL
 rw[if_neg (fun e=>e (Zm3 h))];simp
theorem ZEU:ptE m p q so (poL m p q so)=0:=by
 have hm:=(Zaj h.cv).1
 have h2:=ZaC hm
 obtain⟨hg,_⟩:=h.soft
 obtain⟨z1,z2,z3⟩:=Zlh h
 have hr:ZbM m (poL m p q so) (Zaa so+1) 0=0:=by
  have key:∀k t,t+k=Zaa so+1→ZbM m (poL m p q so) k t=0:=by
   intro k
   induction k with
   |zero=>intro t _;rfl
   |succ k ih=>
    intro t ht
    have e:ZjQ m (pR (poL m p q so) t)=0:=by
     rw[Zln h (by omega)]
     have l:=Zq0 (m:=m) (p:=p) (q:=q) (so:=so) t
     have r:Zbs (fwP m p q so t) (-1000000) 1000000=0:=ZqH fun j hj=>by
      have:=Zj0 (m:=m) (p:=p) (q:=q) hg t j
      exact decide_eq_true (by omega)
     unfold ZjQ Zay
     rw[r]
     simp[show ((fwP m p q so t).length:Int)=stN m by omega,Za5]
    rw[ZbM,if_pos e];exact ih (t+1) (by omega)
  exact key _ _ (by omega)
 have ho:obA m p q so (poL m p q so) (Zaa so) 0=true:=(ZqQ _ _).2 fun j _ hj i hi b hb=>by
  rw[Zln h (by omega),Zln h (by omega)]
  exact ZqC h j i b hi hb
 unfold ptE
 rw[if_pos (ZA2 h),if_pos hr,if_pos ho]
theorem ZsT:pbI so (poL m p q so)=bvI m p q so:=by
 unfold pbI
 rw[Zln h (Nat.le_refl _),Zln h (Nat.zero_le _),Zqv h,ZB4 h];omega
end
end Go.Proofs.Ytklbmkllepkjcaa
/- The laws of potentials: the walks. No condition. -/
namespace Go.Proofs.Ytklbmkllepkjcaa
theorem ZBH{ps:List AV}{B:Nat}(h:∀j,j<ps.length→(pR ps j).length≤B)(hB:B≤1000000):rlP ps=true:=by
 unfold rlP
 refine List.all_eq_true.2 fun v hv=>?_
 obtain⟨j,hj,rfl⟩:=List.mem_iff_getElem.1 hv
 have:=h j hj
 unfold pR at this
 rw[List.getD_eq_getElem?_getD,List.getElem?_eq_getElem hj]at this
 exact decide_eq_true (Nat.le_trans this hB)
section
variable {m p q:Int}{so:List Int}
end
theorem Zo0{C:Ctx}(hC:C.P=Try.prog)(m p q:Int)(so:List Int)(ps:List AV)(hl:so.length≤40)(hn:ps.length≤24)(hr:rlP ps=true):Ev C (ZjC m p q so ps ps.length) (ZgQ m p q so ps ps.length) (ZaX 6 (.bool true) none):=by
 have key:(cdE m p q so≠0∧cdW m p q so=cdE m p q so∧pdE m p q so ps=cdE m p q so∧pdI m p q so ps=0∧(poL m p q so).length=0)∨(cdE m p q so=0∧cdW m p q so=0∧okI m p q so=true∧ptE m p q so (poL m p q so)=0∧bnB (poL m p q so)=true∧bnI (poL m p q so)=bvI m p q so∧((ptE m p q so ps≠0∧pdE m p q so ps=ptE m p q so ps∧pdI m p q so ps=0)∨(ptE m p q so ps=0∧pdE m p q so ps=0∧bnB ps=true∧pdI m p q so ps=bnI ps))):=by
  by_cases e:cdW m p q so=0
  ·have h:=ZqL e
   have h1:=ZEU h
   obtain⟨h2,h3⟩:=Zur h h1
   refine .inr ⟨by rw[←Zhn,e],e,okI_iff.2 h,h1,h2,by rw[h3,ZsT h],?_⟩
   by_cases h4:ptE m p q so ps=0
   ·obtain⟨h5,h6⟩:=Zur h h4
    exact .inr ⟨h4,by simp[pdE,e,h4],h5,by simp[pdI,pdE,e,h4,h6]⟩
   ·exact .inl ⟨h4,by simp[pdE,e],by simp[pdI,pdE,e,h4]⟩
  ·exact .inl ⟨by rw[←Zhn];exact e,Zhn,by unfold pdE;rw[if_neg e,Zhn],by simp[pdI,pdE,e],by unfold poL;rw[if_pos e];rfl⟩
 refine tgo hC Zvn ZmZ ?_
 have a1:so.length≤1000000:=by omega
 have a2:ps.length≤1000000:=by omega
 rcases key with⟨k1,k2,k3,k4,k5⟩ |⟨k1,k2,k3,k4,k5,k6,⟨c1,c2,c3⟩ |⟨c1,c2,c3,c4⟩⟩
 ·simp[ZdJ,a1,a2,hr,k1,k2,k3,k4,k5]
 ·simp[ZdJ,a1,a2,hr,k1,k2,k3,k4,k5,k6,c1,c2,c3]
 ·simp[ZdJ,a1,a2,hr,k1,k2,k3,k4,k5,k6,c1,c2,c3,c4]
theorem Zmy{C:Ctx}(hC:C.P=Try.prog)(m p q:Int)(so:List Int)(ps:List AV)(hl:so.length≤40)(hn:ps.length≤24):∀k t:Nat,t+k=ps.length→(∀j,j<t→(pR ps j).length≤10)→Ev C (ZjC m p q so ps t) (ZgQ m p q so ps t) (ZaX 6 (.bool true) none):=by
 intro k
 induction k with
 |zero=>
  intro t ht hj
  rw[show t=ps.length by omega]
  exact Zo0 hC m p q so ps hl hn (ZBH (fun j hj2=>hj j (by omega)) (by omega))
 |succ k ih=>
  intro t ht hj
  refine tgo hC Zvn ZmZ ?_
  have e1:AV.toIs (ps.getD t .top)=pR ps t:=rfl
  by_cases h0:(pR ps t).length≤10
  ·have i:=ih (t+1) (by omega) (fun j hj2=>by
    by_cases hjt:j=t
    ·subst hjt;exact h0
    ·exact hj j (by omega))
   simp[-List.getD_eq_getElem?_getD,ZdJ,e1,show(t:Int)<ps.length by omega,show t<ps.length by omega,show ¬(10:Int)<(pR ps t).length by omega]at i⊢
   exact⟨by omega,i⟩
  ·simp[-List.getD_eq_getElem?_getD,ZdJ,e1,show(t:Int)<ps.length by omega,show t<ps.length by omega,show(10:Int)<(pR ps t).length by omega]
theorem ZoX(m p q:Int)(so:List Int)(ps:List AV):Zai Try.prog 6 [.agg (.gen [.int .i64 m, .int .i64 p, .int .i64 q]), .list (.ints .i64 so), .list (.big (.ints .i64) ps)] (.bool true) none:=by
 refine start (ZyD m p q so ps) fun C hC=>tgo hC Zvn ZF8 ?_
 by_cases h1:(40:Int)<so.length
 ·simp[ZC8,h1]
 ·by_cases h2:(24:Int)<ps.length
  ·simp[ZC8,h1,h2]
  ·have i:=Zmy hC m p q so ps (by omega) (by omega) ps.length 0 (by omega) (fun j hj=>by omega)
   simp[ZC8,h1,h2]at i⊢
   exact i
end Go.Proofs.Ytklbmkllepkjcaa
