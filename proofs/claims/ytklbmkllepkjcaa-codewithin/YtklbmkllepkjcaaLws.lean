/- Contracts as a list. No condition. -/
import Derived.Test.YtklbmkllepkjcaaP7
import Derived.KernelRfl
namespace Go.Proofs.Ytklbmkllepkjcaa
theorem Zko{m p q:Int}(hv:Zaw m p q=0){s b:Int}(hs:0≤s∧s<stN m)(hb:b=0∨b=1):Zgb m p q s b=true∧0≤nxS m s b∧nxS m s b<stN m:=by
 have hm:=(Zan hv).1
 obtain⟨r0,r1,r2,r3,r4⟩:=Znq (m:=m) (s:=s) (b:=b) hm hs hb
 exact⟨decide_eq_true ⟨hv,hs.1,hs.2,hb⟩,r2,r3⟩
def ZjJ(m p q:Int):Int→List Int→List Int
 |_,[]=>[]
 |s,b::bs=>oS m p s b::oS m q s b::ZjJ m p q (nxS m s b) bs
def Za2(m p q:Int)(bs:List Int):List Int:=ZjJ m p q 0 (bs++List.replicate m.toNat 0)
theorem ZlN(m p q:Int):∀(bs:List Int) (s:Int),(ZjJ m p q s bs).length=2*bs.length
 |[],_=>rfl
 |b::bs,s=>by simp only[ZjJ,List.length_cons,ZlN m p q bs];omega
theorem Zc3(m p q:Int)(bs:List Int):(Za2 m p q bs).length=2*(bs.length+m.toNat):=by
 unfold Za2;rw[ZlN,List.length_append,List.length_replicate]
theorem Zbz(m p q:Int):∀(bs:List Int) (s:Int),ZaD (ZjJ m p q s bs)=true
 |[],_=>rfl
 |b::bs,s=>by
  have h:=Zbz m p q bs (nxS m s b)
  unfold ZaD at h⊢
  simp only[ZjJ,List.all_cons,h,Bool.and_true,Bool.and_eq_true,decide_eq_true_eq]
  exact⟨ZcC m p s b,ZcC m q s b⟩
theorem Zsa{w:List Int}(h:ZaD w=true)(j:Nat):w.getD j 0=0∨w.getD j 0=1:=by
 by_cases hj:j<w.length
 ·exact of_decide_eq_true (List.all_eq_true.1 h _ (Zma hj))
 ·rw[List.getD_eq_getElem?_getD,List.getElem?_eq_none (by omega)];exact .inl rfl
theorem ZfC{a b:List Int}(ha:ZaD a=true)(hb:ZaD b=true):ZaD (a++b)=true:=by
 unfold ZaD at *;rw[List.all_append,ha,hb];rfl
theorem ZfI(n:Nat):ZaD (List.replicate n 0)=true:=List.all_eq_true.2 fun x hx=>by rw[(List.mem_replicate.1 hx).2];rfl
def Zps(so:List Int):Nat→List Int→Int
 |_,[]=>0
 |i,x::l=>coI x (so.getD i 0)+Zps so (i+1) l
section
variable {C:Ctx}(hC:C.P=Try.prog)
include hC
theorem E31(m p q:Int)(hv:Zaw m p q=0)(xs l:List Int)(hb:ZaD l=true)(hl:l.length≤1000)(n1 n2:Int)(b3:Bool):∀(k i:Nat) (s:Int) (out:List Int),i+k=l.length→(0≤s∧s<stN m)→out.length=2*i→
 Ev C (ZgD m p q xs l.length n1 n2 b3 l s i out) (ZeS m p q xs l.length n1 n2 b3 l s i out) (Zvy 31 (.tup [.list (.ints .i64 (out++ZjJ m p q s (l.drop i))), .int .i64 0])):=by
 intro k
 induction k with
 |zero=>
  intro i s out hi hs ho
  rw[List.drop_of_length_le (by omega),ZjJ,List.append_nil]
  refine Zzo hC ZnG Zht ?_
  simp[ZeO,show ¬(i:Int)<l.length by omega]
  exact⟨_, .same _, .tup ⟨.row _ rfl rfl rfl, .same _ rfl rfl,trivial⟩,rfl⟩
 |succ k ih=>
  intro i s out hi hs ho
  have hlt:i<l.length:=by omega
  have hlt2:(i:Int)<l.length:=by omega
  have hbi:=Zsa hb i
  obtain⟨s1,s2,s3⟩:=Zko hv hs hbi
  have next:=ih (i+1) (nxS m s (l.getD i 0)) (out++[oS m p s (l.getD i 0),oS m q s (l.getD i 0)]) (by omega) ⟨s2,s3⟩ (by simp;omega)
  rw[Ziy hlt,ZjJ]
  rw[List.append_assoc]at next
  refine Zzo hC ZnG Zht ?_
  simp[-List.getD_eq_getElem?_getD,ZeO,hlt,hlt2,s1]at next⊢
  exact⟨by omega,next⟩
end
def ebF(m p q:Int)(bs:List Int):Int:=ZaL [Zaw m p q,bsE bs]
def ebL(m p q:Int)(bs:List Int):List Int:=if ebF m p q bs=0 then Za2 m p q bs else []
theorem ZrY{bs:List Int}(h:bsE bs=0):bs.length≤300∧ZaD bs=true:=by
 unfold bsE at h
 split at h
 ·cases h
 ·split at h
  ·exact⟨by omega,by assumption⟩
  ·cases h
theorem ZjE{x:Int}{l:List Int}(h:ZaL (x::l)=0):x=0∧ZaL l=0:=by
 rw[ZaL]at h
 split at h
 ·exact⟨by assumption,h⟩
 ·contradiction
theorem Zoh{m:Int}(hm:m=1∨m=2∨m=3):0<stN m:=by
 have:=Zha (m:=m) (by omega);omega
theorem Zp9(m p q:Int)(bs:List Int)(hl:bs.length≤1000000):Zah Try.prog 31 [.agg (.gen [.int .i64 m, .int .i64 p, .int .i64 q]), .list (.ints .i64 bs)] (.tup [.list (.ints .i64 (ebL m p q bs)), .int .i64 (ebF m p q bs)]) Zrc:=by
 refine Zr5 (Ztd m p q bs) fun C hC=>Zzo hC ZnG ZAj ?_
 by_cases h:ebF m p q bs=0
 ·obtain⟨h1,h2⟩:=ZjE h
  obtain⟨h2,_⟩:=ZjE h2
  obtain⟨h3,h4⟩:=ZrY h2
  have hm:=(Zan h1).1
  have i:=E31 hC m p q h1 bs (bs++List.replicate m.toNat 0) (ZfC h4 (ZfI _)) (by simp;omega) 0 0 false (bs++List.replicate m.toNat 0).length 0 0 [] (by omega) ⟨by omega,Zoh hm⟩ rfl
  have e1:ZaL [Zaw m p q,bsE bs]=0:=h
  simp[ZuF,e1,hl,ebL,h,AV.bx,Zam]at i⊢
  refine⟨by omega,by simpa[Za2]using i⟩
 ·have e1:¬ZaL [Zaw m p q,bsE bs]=0:=h
  have e2:ZaL [Zaw m p q,bsE bs]=ebF m p q bs:=rfl
  simp[ZuF,e1,hl,ebL,h,AV.bx,Zam]
  rw[e2]
  exact⟨_, .same _, .tup ⟨.nil _ rfl, .same _ rfl rfl,trivial⟩,rfl⟩
section
variable (m p q:Int)
def wt(s b:Int):Int:=oS m p s b+oS m q s b
def rx(s:Nat)(b:Int)(x:Int×List Int):Int×List Int:=if nxS m s b=0 then(min x.1 (x.2.getD s 0+wt m p q s b),x.2)else(x.1,x.2.set (nxS m s b).toNat (min (x.2.getD (nxS m s b).toNat 0) (x.2.getD s 0+wt m p q s b)))
def rxR:Nat→Nat→Int×List Int→Int×List Int
 |0,_,x=>x
 |k+1,s,x=>rxR k (s+1) (rx m p q s 1 (rx m p q s 0 x))
def rxN:Nat→Int×List Int→Int×List Int
 |0,x=>x
 |n+1,x=>rxN n (rxR m p q (stS m-1) 1 x)
def frP:Int×List Int:=rxN m p q (stS m+1) (100000,(List.replicate (stS m) 100000).set (nxS m 0 1).toNat (wt m p q 0 1))
def frI:Int:=if Zaw m p q=0 then(frP m p q).1 else 0
end
structure OkX (m:Int) (x:Int×List Int):Prop where
 b:0≤x.1∧x.1≤100000
 l:x.2.length=stS m
 r:∀j,0≤x.2.getD j 0∧x.2.getD j 0≤100000
theorem Zpk(m p q s b:Int):0≤wt m p q s b∧wt m p q s b≤2:=by
 have h1:=ZcC m p s b
 have h2:=ZcC m q s b
 unfold wt;omega
theorem Zo0{m p q:Int}(s:Nat)(b:Int){x:Int×List Int}(h:OkX m x):OkX m (rx m p q s b x):=by
 have h1:=h.b
 have h2:=h.r s
 have h3:=h.r (nxS m s b).toNat
 have h4:=Zpk m p q s b
 unfold rx
 split
 ·exact⟨by simp only;omega,h.l,h.r⟩
 ·refine⟨h.b,by simp[h.l],fun j=>?_⟩
  simp only
  rw[List.getD_eq_getElem?_getD,List.getElem?_set]
  split
  ·split
   ·simp only[Option.getD_some];omega
   ·simp
  ·rw[←List.getD_eq_getElem?_getD];exact h.r j
theorem Zsq{m p q:Int} :∀(k s:Nat) {x:Int×List Int},OkX m x→OkX m (rxR m p q k s x)
 |0,_,_,h=>h
 |k+1,s,_,h=>Zsq k (s+1) (Zo0 s 1 (Zo0 s 0 h))
section
variable {C:Ctx}(hC:C.P=Try.prog)(m p q:Int)(hv:Zaw m p q=0)
include hC hv
theorem D2(n0 n1 n3:Int)(s:Nat)(hs:s<stS m)(b:Int)(hb:b=0∨b=1)(x:Int×List Int)(hx:OkX m x)(r:AV)
 (hn:Ev C (Zel m p q n0 n1 n3 s (rx m p q s b x).1 (b+1) (rx m p q s b x).2) (Zc2 m p q n0 n1 n3 s (rx m p q s b x).1 (b+1) (rx m p q s b x).2) (Zb1 32 r none)):
 Ev C (Zel m p q n0 n1 n3 s x.1 b x.2) (Zc2 m p q n0 n1 n3 s x.1 b x.2) (Zb1 32 r none):=by
 have hm:=(Zan hv).1
 have h2:=Za5 hm
 obtain⟨s1,s2,s3⟩:=Zko hv (s:=s) (b:=b) (by omega) hb
 have hl:=hx.l
 have hr:=hx.r s
 have hr2:=hx.r (nxS m s b).toNat
 have hw:=Zpk m p q s b
 have hxb:=hx.b
 have o1:=ZcC m p s b
 have o2:=ZcC m q s b
 obtain⟨e,l⟩:=x
 simp only at hl hr hr2 hxb
 have s3':(nxS m s b).toNat<l.length:=by omega
 have hsl:s<l.length:=by omega
 unfold wt at hw
 unfold rx wt at hn
 refine tgo hC ZiV Zhh ?_
 by_cases h0:nxS m s b=0
 ·rw[if_pos h0]at hn
  rcases hb with rfl |rfl<;>
  ·simp[-List.getD_eq_getElem?_getD,List.getD_cons_zero,List.getD_cons_succ,Zdo,s1,h0,hsl]at hn⊢
   refine⟨?_,?_,hn⟩<;>omega
 ·rw[if_neg h0]at hn
  rcases hb with rfl |rfl<;>
  ·simp[-List.getD_eq_getElem?_getD,List.getD_cons_zero,List.getD_cons_succ,Zdo,s1,h0,hsl,s2,s3']at hn⊢
   refine⟨?_,?_,hn⟩<;>omega
theorem D1(n1 n3:Int)(hn3:0≤n3∧n3≤1000)(r:AV):∀(k s:Nat) (x:Int×List Int),s+k=stS m→OkX m x→
 Ev C (Zeo m p q (stN m) n1 (rxR m p q k s x).2 (n3+1) (rxR m p q k s x).1) (Zc9 m p q (stN m) n1 (rxR m p q k s x).2 (n3+1) (rxR m p q k s x).1) (Zb1 32 r none)→
 Ev C (Zf1 m p q (stN m) n1 n3 x.1 s x.2) (ZeK m p q (stN m) n1 n3 x.1 s x.2) (Zb1 32 r none):=by
 have hm:=(Zan hv).1
 have h2:=Za5 hm
 intro k
 induction k with
 |zero=>
  intro s x hs hx hn
  refine tgo hC ZiV Zhx ?_
  simp[Ze9,rxR,show ¬(s:Int)<stN m by omega]at hn⊢
  exact⟨by omega,hn⟩
 |succ k ih=>
  intro s x hs hx hn
  refine tgo hC ZiV Zhx ?_
  have i:=ih (s+1) _ (by omega) (Zo0 s 1 (Zo0 s 0 hx)) hn
  simp[Ze9,show(s:Int)<stN m by omega]at i⊢
  refine D2 hC m p q hv _ _ _ s (by omega) 0 (Or.inl rfl) x hx r ?_
  refine D2 hC m p q hv _ _ _ s (by omega) 1 (Or.inr rfl) _ (Zo0 s 0 hx) r ?_
  refine tgo hC ZiV Zhh ?_
  simp[Zdo]
  exact⟨by omega,i⟩
theorem D0:∀(k:Nat) (t:Int) (x:Int×List Int),t+k=stN m+1→0≤t→OkX m x→
 Ev C (Zeo m p q (stN m) (stN m+1) x.2 t x.1) (Zc9 m p q (stN m) (stN m+1) x.2 t x.1) (Zb1 32 (.tup [.int .i64 (rxN m p q k x).1, .int .i64 0]) none):=by
 have hm:=(Zan hv).1
 have h2:=Za5 hm
 intro k
 induction k with
 |zero=>
  intro t x ht h0 hx
  refine tgo hC ZiV ZhE ?_
  simp[Ze7,rxN,show ¬t<stN m+1 by omega]
 |succ k ih=>
  intro t x ht h0 hx
  refine tgo hC ZiV ZhE ?_
  have i:=D1 hC m p q hv (stN m+1) t ⟨h0,by omega⟩ _ (stS m-1) 1 x (by omega) hx (ih (t+1) _ (by omega) (by omega) (Zsq _ _ hx))
  simp[Ze7,rxN,show t<stN m+1 by omega]at i⊢
  exact i
end
theorem Zy1{m p q:Int} :OkX m (100000,(List.replicate (stS m) 100000).set (nxS m 0 1).toNat (wt m p q 0 1)):=by
 refine⟨by simp,by simp,fun j=>?_⟩
 have hw:=Zpk m p q 0 1
 simp only
 rw[List.getD_eq_getElem?_getD,List.getElem?_set]
 split
 ·split
  ·simp only[Option.getD_some];omega
  ·simp
 ·rw[List.getElem?_replicate];split<;>simp
theorem Znr(m p q:Int):Zah Try.prog 32 [.agg (.gen [.int .i64 m, .int .i64 p, .int .i64 q])] (.tup [.int .i64 (frI m p q), .int .i64 (Zaw m p q)]) none:=by
 refine start (ZsP m p q) fun C hC=>tgo hC ZiV ZAv ?_
 by_cases hv:Zaw m p q=0
 ·have hm:=(Zan hv).1
  have h2:=Za5 hm
  have i:=D0 hC m p q hv (stS m+1) 0 _ (by omega) (by omega) (Zy1 (m:=m) (p:=p) (q:=q))
  obtain⟨s1,s2,s3⟩:=Zko hv (s:=0) (b:=1) ⟨by omega,Zoh hm⟩ (Or.inr rfl)
  have hst:Zt5 (stN m)=true:=decide_eq_true (by omega)
  have o1:=ZcC m p 0 1
  have o2:=ZcC m q 0 1
  have e2:(stN m).toNat=stS m:=rfl
  have s3':(nxS m 0 1).toNat<stS m:=by omega
  unfold frI frP
  unfold wt at i⊢
  simp[Zvq,hv,s1,AV.bx,Zam]at i⊢
  simp only[show ((2:Int)^m.toNat)=stN m from rfl,hst,e2]
  refine⟨?_,i⟩
  and_intros<;>first |omega |trivial
 ·simp[Zvq,hv,frI]
def k31:Ctr:=⟨31,0,fun _ a=>match a with |[.agg (.gen [.int .i64 m, .int .i64 p, .int .i64 q]), .list (.ints .i64 bs)]=>some (decide (bs.length≤1000000), .tup [.list (.ints .i64 (ebL m p q bs)), .int .i64 (ebF m p q bs)],Zrc) |_=>none⟩
theorem Zv0:k31.OK Try.prog:=fun pa args r fr h=>by
 simp only[k31]at h
 split at h
 ·simp only[Option.some.injEq,Prod.mk.injEq,decide_eq_true_eq]at h
  obtain⟨h0,rfl,rfl⟩:=h
  exact Zp9 _ _ _ _ h0
 ·cases h
def k32:Ctr:=⟨32,0,fun _ a=>match a with |[.agg (.gen [.int .i64 m, .int .i64 p, .int .i64 q])]=>some (true, .tup [.int .i64 (frI m p q), .int .i64 (Zaw m p q)],none) |_=>none⟩
theorem ZxH:k32.OK Try.prog:=fun pa args r fr h=>by
 simp only[k32]at h
 split at h
 ·cases h
  exact Znr _ _ _
 ·cases h
def J9:List Ctr:=[k31,k32]++J8
theorem ZzO:ZaO Try.prog J9:=⟨Zv0,⟨ZxH,Zz0⟩⟩
end Go.Proofs.Ytklbmkllepkjcaa
/- Contracts as a list. No condition. -/
namespace Go.Proofs.Ytklbmkllepkjcaa
@[simp] theorem ZBJ (l:List AV):std.lenA l=l.length:=rfl
@[simp] theorem ZBH (l:List AV) (j:Nat):std.nthA l j=l.getD j .top:=rfl
def pR(ps:List AV)(t:Nat):List Int:=AV.toIs (ps.getD t .top)
section
variable (m p q:Int)(so:List Int)(ps:List AV)
end
structure OkP (m:Int) (so:List Int) (ps:List AV):Prop where
 n:ps.length=Zac so+1
 l:∀t,t≤Zac so→(pR ps t).length=stS m
 r:∀t j,t≤Zac so→ -1000000≤(pR ps t).getD j 0∧(pR ps t).getD j 0≤1000000
section
variable {C:Ctx}(hC:C.P=Try.prog)(m p q:Int)(so:List Int)(ps:List AV)(h:OkC m p q so)(hp:OkP m so ps)
include hC h hp
end
section
variable {C:Ctx}(hC:C.P=Try.prog)(m p q:Int)(so:List Int)(ps:List AV)(h:OkC m p q so)(hn:ps.length=Zac so+1)(hrl:∀t,(pR ps t).length≤1000000)
include hC h hn hrl
end
def rlB(ps:List AV):Prop:=∀t,(pR ps t).length≤1000000
section
variable {C:Ctx}(hC:C.P=Try.prog)(m p q:Int)(so:List Int)(ps:List AV)(h:OkC m p q so)(hp:OkP m so ps)
include hC h hp
end
section
variable {C:Ctx}(hC:C.P=Try.prog)(m p q:Int)(so:List Int)(ps:List AV)(h:OkC m p q so)(hn:ps.length=Zac so+1)
include hC h hn
end
section
variable {C:Ctx}(hC:C.P=Try.prog)(ps:List AV)(hl:ps.length≤1000000)(hrl:rlB ps)
include hC hl hrl
end
def Ja:List Ctr:=J9
theorem Zzu:ZaO Try.prog Ja:=ZzO
end Go.Proofs.Ytklbmkllepkjcaa
/- Contracts as a list. No condition. -/
namespace Go.Proofs.Ytklbmkllepkjcaa
def k14v:Ctr:=⟨14,0,fun _ a=>match a with |[.list (.ints .i64 xs)]=>some (decide (xs.length≤1000000), .list (.ints .i64 xs),Zrc) |_=>none⟩
theorem Zs5:k14v.OK Try.prog:=fun pa args r fr h=>by
 simp only[k14v]at h
 split at h
 ·simp only[Option.some.injEq,Prod.mk.injEq,decide_eq_true_eq]at h
  obtain⟨h0,rfl,rfl⟩:=h
  exact Zt2 (Zjw _ h0) rfl rfl
 ·cases h
def Jb:List Ctr:=[k14v]++Ja
theorem ZtC:ZaO Try.prog Jb:=⟨Zs5,Zzu⟩
end Go.Proofs.Ytklbmkllepkjcaa
/- Paths of functions, printed by the explorer (Gx). No condition. -/
namespace Go.Proofs.Ytklbmkllepkjcaa
set_option maxRecDepth 100000
set_option linter.unusedVariables false
def ZB0(m g0 g1:Int)(bs at_:List Int)(sz:Int):AFrame:={ fn:=5,N:=141,env:=[(0,AV.agg (Row.gen [.int .i64 m, .int .i64 g0, .int .i64 g1])),(1,AV.list (.ints .i64 bs)),(2,AV.agg (Row.gen [.list (.ints .i64 at_), .int .i64 sz]))],todo:=[.code a5.code],defs:=[],rnd:=none,ret:=false,res:=[ARes.tmp 6] }
def f5e(m g0 g1:Int)(bs at_:List Int)(sz:Int):List AFrame:=[(ZB0 m g0 g1 bs at_ sz)]
theorem Zv3(m g0 g1:Int)(bs at_:List Int)(sz:Int):Zax tab 5 [AV.agg (Row.gen [.int .i64 m, .int .i64 g0, .int .i64 g1]),AV.list (.ints .i64 bs),AV.agg (Row.gen [.list (.ints .i64 at_), .int .i64 sz])]=some (ZB0 m g0 g1 bs at_ sz):=rfl
def ZkJ(m g0 g1:Int)(bs at_:List Int)(sz:Int)(l0:List Int)(n1 n2 n3:Int)(l4:List Int):List AFrame:=[{ fn:=5,N:=141,env:=[(1,AV.list (.ints .i64 bs)),(3,AV.ptr 5004 0 0 0),(5,AV.ptr 5006 0 0 0),(7,AV.list (.ints .i64 l0)),(9,AV.int .i64 n1),(11,AV.row 5111 0),(12,AV.int .i64 n2),(13,AV.int .i64 n3)],todo:=.code (ACode.gh [] ZBG)::ZCO,defs:=[],rnd:=none,ret:=false,res:=[ARes.tmp 6] }]
def Zh3(m g0 g1:Int)(bs at_:List Int)(sz:Int)(l0:List Int)(n1 n2 n3:Int)(l4:List Int):Zab:=[(5004,{ base:=0,blks:=[Blk.row 24 3 (Row.gen [AV.agg (Row.gen [AV.int .i64 m,AV.int .i64 g0,AV.int .i64 g1])])] }),(5006,{ base:=0,blks:=[Blk.row 47 2 (Row.gen [AV.agg (Row.gen [AV.list (.ints .i64 at_),AV.int .i64 sz])])] }),(5111,{ base:=0,blks:=[Blk.row 3 1 (.ints .i64 l4)] })]
abbrev Zh2(m g0 g1:Int)(bs at_:List Int)(sz:Int)(l0:List Int)(n1 n2 n3:Int)(l4:List Int):List AFrame×Zab:=(ZkJ m g0 g1 bs at_ sz l0 n1 n2 n3 l4,Zh3 m g0 g1 bs at_ sz l0 n1 n2 n3 l4)
def Zud(A:Ar)(K:KT)(F:FT)(m g0 g1:Int)(bs at_:List Int)(sz:Int):Prop:=rB [!A.not true] (bB (A.not (A.eq (Zaw m g0 g1) 0)) (F (AV.bool true) (none)) (bB (A.lt 24 (A.int (A.len bs))) (F (AV.bool true) (none)) (rB [decide (List.length bs≤1000000)] (bB (A.not (A.eq (bsE bs) 0)) (F (AV.bool true) (none)) (bB (A.lt 10 (A.int (A.len at_))) (F (AV.bool true) (none)) (bB (A.not (Zas sz 1 7)) (F (AV.bool true) (none)) (rB [decide (List.length bs≤1000000),decide (List.length bs≤1000000)] (bB (A.not (A.eq (ebF m g0 g1 bs) 0)) (False) (rB [!A.not (A.eq (Zaw m g0 g1) 0)] (rB [A.inR .i64 (A.add (A.int (A.len bs)) m)] (rB [A.inR .i64 (A.mul 2 (A.add (A.int (A.len bs)) m))] (bB (A.not (A.eq (A.int (A.len (ebL m g0 g1 bs))) (A.mul 2 (A.add (A.int (A.len bs)) m)))) (False) (rB [decide (List.length (ebL m g0 g1 bs)≤1000000)] (bB (A.not (ZaD (ebL m g0 g1 bs))) (False) (bB (A.not (Zas (frI m g0 g1) 1 100)) (False) (K (Zh2 (m) (g0) (g1) (bs) (at_) (sz) (ebL m g0 g1 bs) (frI m g0 g1) (0) (0) ([]))))))))))))))))))
theorem ZDd{A:Ar}{K:KT}{F:FT}{M:MT}{m g0 g1:Int}{bs at_:List Int}{sz:Int} :ZaA A tab Jb 5 K F M (.run 12 (.fy (.run 8 (.tf (.ty (.ty (.ty (.run 1 (.ty (.ty (.ty (.ty (.run 1 (.ty (.ty (.ty (.ty (.ty (.run 1 (.ty (.ty (.ty (.ty (.ty (.run 2 (.ty (.run 5 (.fn)))))))))))))))))))))))) (.fy (.fy (.fy (.run 1 (.tf (.ty (.ty (.ty (.run 1 (.ty (.ty (.ty (.ty (.ty (.run 1 (.ty (.ty (.ty (.ty (.ty (.run 2 (.ty (.run 5 (.fn))))))))))))))))))) (.fy (.fy (.fy (.run 1 (.tf (.ty (.ty (.ty (.ty (.run 1 (.ty (.ty (.ty (.ty (.ty (.run 2 (.ty (.run 5 (.fn)))))))))))))) (.fy (.fy (.fy (.fy (.run 1 (.tf (.ty (.ty (.ty (.ty (.run 2 (.ty (.run 5 (.fn)))))))) (.fy (.fy (.fy (.fy (.run 2 (.tf (.run 5 (.fn)) (.run 20 (.tf (.ty (.ty (.run 1 (.ty (.ty (.ty (.ty (.ty (.ty (.ty (.ty (.ty (.ty (.run 1 (.ty (.ty (.ty (.ty (.run 1 (.ty (.ty (.ty (.ty (.run 2 (.ty (.run 5 (.no))))))))))))))))))))))))))) (.fy (.fy (.run 1 (.fy (.fy (.fy (.fy (.fy (.fy (.fy (.fy (.fy (.fy (.run 1 (.tf (.ty (.ty (.ty (.run 1 (.ty (.ty (.ty (.ty (.run 2 (.ty (.run 5 (.no)))))))))))) (.fy (.fy (.fy (.run 1 (.tf (.ty (.ty (.ty (.run 2 (.ty (.run 5 (.no))))))) (.fy (.fy (.fy (.run 2 (.tf (.run 5 (.no)) (.run 18 (.hd))))))))))))))))))))))))))))))))))))))))))))))))))))))) (f5e m g0 g1 bs at_ sz) []=Zud A K F m g0 g1 bs at_ sz:=by kernel_rfl
def Zek(A:Ar)(K:KT)(F:FT)(m g0 g1:Int)(bs at_:List Int)(sz:Int)(l0:List Int)(n1 n2 n3:Int)(l4:List Int):Prop:=bB (A.lt n3 (A.int (A.len l0))) (rB [decide (List.length at_≤1000000),A.inR .i64 (A.mul sz (A.sub 1 (A.mul 2 (A.nth l0 (A.nat n3))))),A.inR .i64 (A.sub 1 (A.mul 2 (A.nth l0 (A.nat n3)))),A.inR .i64 (A.mul 2 (A.nth l0 (A.nat n3))),Zag (Zag (A.le 0 n3) (Nat.blt (A.nat n3) (A.len l0))) true] (bB (decide (n3∈at_)) (rB [A.inR .i64 (A.add n3 1),Nat.ble (A.len l4+A.len [A.neg (A.mul sz (A.sub 1 (A.mul 2 (A.nth l0 (A.nat n3)))))]) 4294967296,List.all [AV.int .i64 (A.neg (A.mul sz (A.sub 1 (A.mul 2 (A.nth l0 (A.nat n3))))))] fun x=>AV.bx x&&Nat.beq (Zam A x) 1,A.inR .i64 (A.add n2 1),A.inR .i64 (A.neg (A.mul sz (A.sub 1 (A.mul 2 (A.nth l0 (A.nat n3))))))] (K (Zh2 (m) (g0) (g1) (bs) (at_) (sz) (l0) (n1) (A.add n2 1) (A.add n3 1) (A.app l4 [A.neg (A.mul sz (A.sub 1 (A.mul 2 (A.nth l0 (A.nat n3)))))])))) (rB [A.inR .i64 (A.add n3 1),Nat.ble (A.len l4+A.len [A.mul sz (A.sub 1 (A.mul 2 (A.nth l0 (A.nat n3))))]) 4294967296,List.all [AV.int .i64 (A.mul sz (A.sub 1 (A.mul 2 (A.nth l0 (A.nat n3)))))] fun x=>AV.bx x&&Nat.beq (Zam A x) 1] (K (Zh2 (m) (g0) (g1) (bs) (at_) (sz) (l0) (n1) (n2) (A.add n3 1) (A.app l4 [A.mul sz (A.sub 1 (A.mul 2 (A.nth l0 (A.nat n3))))])))))) (rB [A.inR .i64 (A.mul 2 n2)] (bB (A.le n1 (A.mul 2 n2)) (F (AV.bool true) (none)) (rB [decide (List.length l4≤1000000)] (bB (A.eq (cdW m g0 g1 l4) 0) (rB [decide (List.length (blW m g0 g1 l4)≤1000000)] (bB (decide (blW m g0 g1 l4=bs)) (rB [A.inR .i64 (A.mul 2 n2)] (rB [A.inR .i64 (A.sub (A.int (A.len l0)) (A.mul 2 n2))] (rB [A.inR .i64 (A.mul sz (A.sub (A.int (A.len l0)) (A.mul 2 n2)))] (F (AV.bool (A.eq (bvW m g0 g1 l4) (A.mul sz (A.sub (A.int (A.len l0)) (A.mul 2 n2))))) (none))))) (False))) (False)))))
theorem ZlX{A:Ar}{K:KT}{F:FT}{M:MT}{m g0 g1:Int}{bs at_:List Int}{sz:Int}{l0:List Int}{n1 n2 n3:Int}{l4:List Int} :ZaA A tab Jb 5 K F M (.run 9 (.tf (.run 14 (.tf (.run 23 (.hd)) (.run 16 (.hd)))) (.run 9 (.tf (.run 5 (.fn)) (.run 20 (.tf (.ty (.ty (.ty (.run 1 (.tf (.ty (.ty (.ty (.ty (.ty (.ty (.ty (.ty (.ty (.ty (.run 4 (.fn)))))))))))) (.fy (.fy (.fy (.fy (.fy (.fy (.fy (.fy (.fy (.fy (.run 4 (.no))))))))))))))))) (.fy (.fy (.fy (.run 1 (.fy (.fy (.fy (.fy (.fy (.fy (.fy (.fy (.fy (.fy (.fy (.run 4 (.no))))))))))))))))))))))) (ZkJ m g0 g1 bs at_ sz l0 n1 n2 n3 l4) (Zh3 m g0 g1 bs at_ sz l0 n1 n2 n3 l4)=Zek A K F m g0 g1 bs at_ sz l0 n1 n2 n3 l4:=by kernel_rfl
end Go.Proofs.Ytklbmkllepkjcaa
/- Ways through the trellis: no metric is greater than the bound of potentials; the best bits attain theirs, and come first; the forward potentials prove it. No condition. -/
namespace Go.Proofs.Ytklbmkllepkjcaa
section
variable (m p q:Int)(so:List Int)
def Zdp:Nat→Nat→List Int→Int
 |_,_,[]=>0
 |t,s,b::bs=>gnI m p q so t s b+Zdp (t+1) (nxS m s b).toNat bs
def ZfD:Nat→List Int→Nat
 |s,[]=>s
 |s,b::bs=>ZfD (nxS m s b).toNat bs
def okW:Nat→List Int→Prop
 |_,[]=>True
 |t,b::bs=>(b=0∨b=1∧t<ZbF m so)∧okW (t+1) bs
end
theorem Zkv{m:Int}{so:List Int} :∀ {a:List Int} {t:Nat},ZaD a=true→t+a.length≤ZbF m so→okW m so t a
 |[],_,_,_=>trivial
 |b::a,t,h,hl=>by
  have h':(decide (b=0∨b=1)&&ZaD a)=true:=h
  rw[Bool.and_eq_true]at h'
  have hb:=of_decide_eq_true h'.1
  simp only[List.length_cons]at hl
  exact⟨by omega,Zkv h'.2 (by omega)⟩
theorem Zlm{m:Int}{so:List Int} :∀(n t:Nat),okW m so t (List.replicate n 0)
 |0,_=>trivial
 |n+1,t=>⟨Or.inl rfl,Zlm n (t+1)⟩
theorem Znh{m:Int}{so:List Int} :∀ {a b:List Int} {t:Nat},okW m so t a→okW m so (t+a.length) b→okW m so t (a++b)
 |[],b,t,_,h=>by simpa using h
 |x::a,b,t,h1,h2=>by
  refine⟨h1.1,Znh h1.2 ?_⟩
  rw[show t+1+a.length=t+(x::a).length by simp;omega];exact h2
theorem Zu7{m:Int}{so:List Int}{bs:List Int}(h:ZaD bs=true)(hl:bs.length=ZbF m so):okW m so 0 (bs++List.replicate m.toNat 0):=
 Znh (Zkv h (by omega)) (Zlm _ _)
theorem Zuh{m p q:Int}{so:List Int}{n s:Nat}(hs:s<stS m){b:Int}(hb:b=0∨b=1∧Zac so-1-n<ZbF m so):gnI m p q so (Zac so-1-n) s b+(dpP m p q so n).getD (nxS m s b).toNat 0≤(dpP m p q so (n+1)).getD s 0:=by
 rw[Zix m p q so hs,ZkY]
 unfold upP
 rcases hb with rfl |⟨rfl,hb⟩
 ·split<;>omega
 ·rw[if_pos hb];omega
section
variable {m p q:Int}{so:List Int}(h:OkC m p q so)
include h
theorem Zk4:∀(bs:List Int) (t s:Nat),s<stS m→ZaD bs=true→Zps so (2*t) (ZjJ m p q s bs)=Zdp m p q so t s bs
 |[],_,_,_,_=>rfl
 |b::bs,t,s,hs,hb=>by
  have h':(decide (b=0∨b=1)&&ZaD bs)=true:=hb
  rw[Bool.and_eq_true]at h'
  have hbb:=of_decide_eq_true h'.1
  obtain⟨s1,s2,s3⟩:=Zbd h hs hbb
  have i:=Zk4 bs (t+1) (nxS m s b).toNat s3 h'.2
  rw[Int.toNat_of_nonneg s2]at i
  rw[ZjJ,Zps,Zps,Zdp,←i,show 2*(t+1)=2*t+1+1 by omega,←Int.add_assoc,Zp4 so t (ZcC m p s b) (ZcC m q s b)];rfl
theorem Zn5:∀(bs:List Int) (t s:Nat),s<stS m→okW m so t bs→ZfD m s bs<stS m
 |[],_,_,hs,_=>hs
 |b::bs,t,s,hs,hw=>Zn5 bs (t+1) _ (Zbd h hs (by have:=hw.1;omega)).2.2 hw.2
theorem Zpa:∀(bs:List Int) (t s:Nat),s<stS m→okW m so t bs→t+bs.length≤Zac so→Zdp m p q so t s bs+(dpP m p q so (Zac so-(t+bs.length))).getD (ZfD m s bs) 0≤(dpP m p q so (Zac so-t)).getD s 0
 |[],t,s,_,_,_=>by simp[Zdp,ZfD]
 |b::bs,t,s,hs,hw,hl=>by
  simp only[List.length_cons]at hl
  have hb:=hw.1
  have i:=Zpa bs (t+1) (nxS m s b).toNat (Zbd h hs (by omega)).2.2 hw.2 (by omega)
  have d:=Zuh (m:=m) (p:=p) (q:=q) (so:=so) (n:=Zac so-(t+1)) (s:=s) (b:=b) hs (by rw[show Zac so-1-(Zac so-(t+1))=t by omega];exact hb)
  rw[show Zac so-1-(Zac so-(t+1))=t by omega,show Zac so-(t+1)+1=Zac so-t by omega]at d
  rw[show t+1+bs.length=t+(b::bs).length by simp;omega]at i
  rw[Zdp,ZfD]
  omega
end
theorem Zoj(m:Int)(s:Nat):(nxS m s 0).toNat=s/2:=by
 unfold nxS Zpt
 rw[Int.zero_mul,Int.zero_add];omega
theorem Zgj(m:Int):∀(n s:Nat),ZfD m s (List.replicate n 0)=s/2^n
 |0,s=>by simp[ZfD]
 |n+1,s=>by rw[List.replicate_succ,ZfD,Zgj m n,Zoj,Nat.div_div_eq_div_mul,Nat.pow_succ,Nat.mul_comm]
theorem Zk2(m:Int):∀(a b:List Int) (s:Nat),ZfD m s (a++b)=ZfD m (ZfD m s a) b
 |[],_,_=>rfl
 |_::a,b,_=>Zk2 m a b _
section
variable {m p q:Int}{so:List Int}(h:OkC m p q so)
include h
theorem Ztv:stS m=2^m.toNat:=by
 have hm:=(Zan h.cv).1
 rcases hm with rfl |rfl |rfl<;>rfl
theorem Zln{s:Nat}(hs:s<stS m):ZfD m s (List.replicate m.toNat 0)=0:=by
 rw[Zgj]
 rw[Ztv h]at hs
 exact Nat.div_eq_of_lt hs
theorem ZpX:ZbF m so+m.toNat=Zac so∧Zac so≤303∧so.length=2*Zac so:=by
 have hm:=(Zan h.cv).1
 obtain⟨_,hl1,hl2,hl3⟩:=h.soft
 unfold ZbF Zac;omega
theorem Zlt{bs:List Int}(hb:ZaD bs=true):Zps so 0 (Za2 m p q bs)=Zdp m p q so 0 0 (bs++List.replicate m.toNat 0):=by
 have h2:=Za5 (Zan h.cv).1
 exact Zk4 h (bs++List.replicate m.toNat 0) 0 0 (by omega) (ZfC hb (ZfI _))
theorem ZhT{bs:List Int}(hb:ZaD bs=true)(hl:bs.length=ZbF m so):ZfD m 0 (bs++List.replicate m.toNat 0)=0:=by
 have h2:=Za5 (Zan h.cv).1
 rw[Zk2]
 exact Zln h (Zn5 h bs 0 0 (by omega) (Zkv hb (by omega)))
theorem Zw5{bs:List Int}(hb:ZaD bs=true)(hl:bs.length=ZbF m so):Zps so 0 (Za2 m p q bs)≤bvI m p q so:=by
 have h2:=Za5 (Zan h.cv).1
 obtain⟨z1,z2,z3⟩:=ZpX h
 have i:=Zpa h (bs++List.replicate m.toNat 0) 0 0 (by omega) (Zu7 hb hl) (by simp;omega)
 rw[ZhT h hb hl,←Zlt h hb,List.length_append,List.length_replicate,hl,Nat.zero_add,z1,Nat.sub_self,Zij m p q so (by omega),Nat.sub_zero,(Zig h).2]at i
 simpa using i
theorem ZoM:∀(n s:Nat),n≤m.toNat→s<stS m→s/2^n=0→(dpP m p q so n).getD s 0=Zdp m p q so (Zac so-n) s (List.replicate n 0)
 |0,s,_,hs,h0=>by
  rw[Zij m p q so hs,if_pos (by simpa using h0)];rfl
 |n+1,s,hn,hs,h0=>by
  obtain⟨z1,z2,z3⟩:=ZpX h
  obtain⟨s1,s2,s3⟩:=Zbd h hs (b:=0) (Or.inl rfl)
  have e:(nxS m s 0).toNat/2^n=0:=by rw[Zoj,Nat.div_div_eq_div_mul,Nat.mul_comm,←Nat.pow_succ];exact h0
  have i:=ZoM n (nxS m s 0).toNat (by omega) s3 e
  have hb:=ZcG h (n:=n) (by omega) s3
  rw[Zix m p q so hs,ZkY,if_neg (by omega),upP,List.replicate_succ,Zdp,i,show Zac so-1-n=Zac so-(n+1) by omega,show Zac so-(n+1)+1=Zac so-n by omega]
  have hm:=(Zan h.cv).1
  obtain⟨hg,_⟩:=h.soft
  have g:=ZeW (m:=m) (p:=p) (q:=q) hg (Zac so-(n+1)) s 0
  have lo: -14*(n:Int)≤Zdp m p q so (Zac so-n) (nxS m s 0).toNat (List.replicate n 0):=by
   have key:∀(bs:List Int) (t s:Nat), -14*(bs.length:Int)≤Zdp m p q so t s bs:=by
    intro bs
    induction bs with
    |nil=>intro t s;simp[Zdp]
    |cons b bs ih=>
     intro t s
     have:=ih (t+1) (nxS m s b).toNat
     have g:=ZeW (m:=m) (p:=p) (q:=q) hg t s b
     rw[Zdp,List.length_cons];omega
   have:=key (List.replicate n 0) (Zac so-n) (nxS m s 0).toNat
   simpa using this
  omega
theorem ZoL:∀(j t s:Nat),t+j=ZbF m so→s<stS m→ -14*((Zac so-t:Nat):Int)≤(dpR m p q so (Zac so-t)).getD s 0→
 Zdp m p q so t s (tbP m p q so j t s++List.replicate m.toNat 0)=(dpP m p q so (Zac so-t)).getD s 0∧ZaD (tbP m p q so j t s)=true∧(tbP m p q so j t s).length=j
 |0,t,s,ht,hs,_=>by
  obtain⟨z1,z2,z3⟩:=ZpX h
  have e:Zac so-t=m.toNat:=by omega
  rw[e,ZoM h m.toNat s (Nat.le_refl _) hs (by rw[←Zgj m];exact Zln h hs),show Zac so-m.toNat=t by omega]
  exact⟨rfl,rfl,rfl⟩
 |j+1,t,s,ht,hs,hw=>by
  obtain⟨hg,_⟩:=h.soft
  obtain⟨z1,z2,z3⟩:=ZpX h
  have hg0:=ZeW (m:=m) (p:=p) (q:=q) hg t s 0
  have hg1:=ZeW (m:=m) (p:=p) (q:=q) hg t s 1
  obtain⟨_,a2,a3⟩:=Zbd h hs (b:=0) (Or.inl rfl)
  obtain⟨_,b2,b3⟩:=Zbd h hs (b:=1) (Or.inr rfl)
  obtain⟨n,hn⟩:∃n,Zac so-t=n+1:=⟨Zac so-t-1,by omega⟩
  have hn1:Zac so-t-1=n:=by omega
  have w:=Zen h (n+1) (by omega) s hs
  have w0:=Zen h n (by omega) _ a3
  have w1:=Zen h n (by omega) _ b3
  have e0:=Zd3 m p q so hs (n:=n)
  rw[show Zac so-1-n=t by omega,Zsh,if_pos (by omega),upR,upR]at e0
  have i0:=ZoL j (t+1) (nxS m s 0).toNat (by omega) a3
  have i1:=ZoL j (t+1) (nxS m s 1).toNat (by omega) b3
  rw[show Zac so-(t+1)=n by omega]at i0 i1
  rw[hn]at hw
  obtain⟨r1,r2,r3⟩:=ZlO (by omega) w w0 w1 hg0 hg1 hw e0
  rw[tbP,hn1,hn]
  by_cases hq:(dpR m p q so n).getD (nxS m s 0).toNat 0+gnI m p q so t s 0=(dpR m p q so (n+1)).getD s 0
  ·obtain⟨c1,c2,c3⟩:=i0 (r2 hq)
   rw[if_pos (r1.2 hq),List.cons_append,Zdp,c1]
   exact⟨by have:=r1.2 hq;omega,c2,by rw[List.length_cons,c3]⟩
  ·obtain⟨d1,d2⟩:=r3 hq
   obtain⟨c1,c2,c3⟩:=i1 d2
   rw[if_neg (fun e=>hq (r1.1 e)),if_pos d1,List.cons_append,Zdp,c1]
   exact⟨by omega,c2,by rw[List.length_cons,c3]⟩
theorem ZpL:Zps so 0 (Za2 m p q (blI m p q so))=bvI m p q so∧ZaD (blI m p q so)=true∧(blI m p q so).length=ZbF m so:=by
 have h2:=Za5 (Zan h.cv).1
 have hz:=ZdK h (Zac so) (Nat.le_refl _)
 obtain⟨a,b,c⟩:=ZoL h (ZbF m so) 0 0 (by omega) (by omega) (by simpa using hz)
 obtain⟨d,e⟩:=Zig h
 rw[d]at a b c
 rw[Nat.sub_zero,e]at a
 exact⟨by rw[Zlt h b,a],b,c⟩
end
end Go.Proofs.Ytklbmkllepkjcaa
/- The free distance of all codes, and the linearity of steps, by the kernel. No condition. -/
namespace Go.Proofs.Ytklbmkllepkjcaa
def wgt(m p q:Int):Nat→List Int→Int
 |_,[]=>0
 |s,b::bs=>wt m p q s b+wgt m p q (nxS m s b).toNat bs
theorem Zns(m p q:Int):∀(bs:List Int) (s:Nat),0≤wgt m p q s bs
 |[],_=>by simp[wgt]
 |b::bs,s=>by
  have h1:=Zns m p q bs (nxS m s b).toNat
  have h2:=Zpk m p q s b
  rw[wgt];omega
def ZsL(m p q:Int):Bool:=
 match frP m p q with
 |(d,ws)=>decide (1≤d∧d≤100)&&(decide (ws.getD (nxS m 0 1).toNat 0≤wt m p q 0 1)&&(List.range (stS m)).all fun s=>s==0||[0,1].all fun b=>
  if nxS m s b=0 then decide (d≤ws.getD s 0+wt m p q s b)else decide (ws.getD (nxS m s b).toNat 0≤ws.getD s 0+wt m p q s b))
def ZBL:Bool:=(List.range 4).all fun m=>(List.range 16).all fun p=>(List.range 16).all fun q=>if Zaw m p q=0 then ZsL m p q else true
theorem ZuO:ZBL=true:=by kernel_rfl
theorem Zt9{m p q:Int}(h:Zaw m p q=0):ZsL m p q=true:=by
 obtain⟨hm,p1,p2,q1,q2,p3,q3⟩:=Zan h
 have h0:=ZuO
 obtain⟨M,rfl⟩:=Int.eq_ofNat_of_zero_le (show 0≤m by omega)
 obtain⟨P,rfl⟩:=Int.eq_ofNat_of_zero_le (show 0≤p by omega)
 obtain⟨Q,rfl⟩:=Int.eq_ofNat_of_zero_le (show 0≤q by omega)
 unfold ZBL at h0
 have h1:=List.all_eq_true.1 h0 M (List.mem_range.2 (by omega))
 have h2:=List.all_eq_true.1 h1 P (List.mem_range.2 (by omega))
 have h3:=List.all_eq_true.1 h2 Q (List.mem_range.2 (by omega))
 rwa[if_pos h]at h3
def xb(a b:Int):Int:=if a=b then 0 else 1
def ZBD:Bool:=(List.range 4).all fun m=>(List.range 16).all fun g=>(List.range 8).all fun s=>(List.range 8).all fun u=>[0,1].all fun a=>[0,1].all fun b=>
 if s<2^m∧u<2^m then decide (xb (oS m g s a) (oS m g u b)=oS m g ((s ^^^ u:Nat):Int) (xb a b))&&(nxS m ((s ^^^ u:Nat):Int) (xb a b)).toNat==(nxS m s a).toNat ^^^ (nxS m u b).toNat else true
theorem Zue:ZBD=true:=by kernel_rfl
theorem Zsr{m g:Int}(hm:m=1∨m=2∨m=3)(hg:0≤g∧g≤15){s u:Nat}(hs:s<stS m)(hu:u<stS m){a b:Int}(ha:a=0∨a=1)(hb:b=0∨b=1):
 xb (oS m g s a) (oS m g u b)=oS m g ((s ^^^ u:Nat):Int) (xb a b)∧(nxS m ((s ^^^ u:Nat):Int) (xb a b)).toNat=(nxS m s a).toNat ^^^ (nxS m u b).toNat:=by
 have h2:=Za5 hm
 have hp:stS m=2^m.toNat:=by rcases hm with rfl |rfl |rfl<;>rfl
 have h0:=Zue
 obtain⟨M,rfl⟩:=Int.eq_ofNat_of_zero_le (show 0≤m by omega)
 obtain⟨G,rfl⟩:=Int.eq_ofNat_of_zero_le hg.1
 unfold ZBD at h0
 have h1:=List.all_eq_true.1 h0 M (List.mem_range.2 (by omega))
 have h2:=List.all_eq_true.1 h1 G (List.mem_range.2 (by omega))
 have h3:=List.all_eq_true.1 h2 s (List.mem_range.2 (by omega))
 have h4:=List.all_eq_true.1 h3 u (List.mem_range.2 (by omega))
 have h5:=List.all_eq_true.1 h4 a (by rcases ha with rfl |rfl<;>simp)
 have h6:=List.all_eq_true.1 h5 b (by rcases hb with rfl |rfl<;>simp)
 rw[hp,Int.toNat_natCast]at hs hu
 rw[if_pos ⟨hs,hu⟩,Bool.and_eq_true,decide_eq_true_eq,beq_iff_eq]at h6
 exact h6
end Go.Proofs.Ytklbmkllepkjcaa
/- The free distance: two words differ in at least so many symbols; what is spoilt in fewer than half of them is decoded. No condition. -/
namespace Go.Proofs.Ytklbmkllepkjcaa
structure Free (m p q d:Int) (ws:List Int):Prop where
 r:1≤d∧d≤100
 b:ws.getD (nxS m 0 1).toNat 0≤wt m p q 0 1
 z:∀(s:Nat) (b:Int),s<stS m→s≠0→(b=0∨b=1)→nxS m s b=0→d≤ws.getD s 0+wt m p q s b
 n:∀(s:Nat) (b:Int),s<stS m→s≠0→(b=0∨b=1)→nxS m s b≠0→ws.getD (nxS m s b).toNat 0≤ws.getD s 0+wt m p q s b
theorem Zoi{m p q:Int}(h:Zaw m p q=0):∃ws,Free m p q (frI m p q) ws:=by
 have g:=Zt9 h
 unfold ZsL at g
 have e:frI m p q=(frP m p q).1:=by unfold frI;rw[if_pos h]
 rw[e]
 generalize frP m p q=x at g⊢
 obtain⟨d,ws⟩:=x
 simp only[Bool.and_eq_true,decide_eq_true_eq]at g
 obtain⟨g1,g2,g3⟩:=g
 have key:∀(s:Nat) (b:Int),s<stS m→s≠0→(b=0∨b=1)→(if nxS m s b=0 then decide (d≤ws.getD s 0+wt m p q s b)else decide (ws.getD (nxS m s b).toNat 0≤ws.getD s 0+wt m p q s b))=true:=fun s b hs h0 hb=>by
  have h1:=List.all_eq_true.1 g3 s (List.mem_range.2 hs)
  rw[Bool.or_eq_true]at h1
  rcases h1 with h1 |h1
  ·exact absurd (by simpa using h1) h0
  ·exact List.all_eq_true.1 h1 b (by rcases hb with rfl |rfl<;>simp)
 refine⟨ws,g1,g2,fun s b hs h0 hb hn=>?_,fun s b hs h0 hb hn=>?_⟩
 ·have:=key s b hs h0 hb;rw[if_pos hn]at this;exact of_decide_eq_true this
 ·have:=key s b hs h0 hb;rw[if_neg hn]at this;exact of_decide_eq_true this
theorem ZxP{m p q:Int}(hv:Zaw m p q=0):0<nxS m (0:Nat) 1:=by
 rcases(Zan hv).1 with rfl |rfl |rfl<;>decide
section
variable {m p q d:Int}{ws:List Int}(hv:Zaw m p q=0)(hf:Free m p q d ws)
include hv hf
theorem Zlo:∀(bs:List Int) (s:Nat),s<stS m→s≠0→ZaD bs=true→ZfD m s bs=0→d≤ws.getD s 0+wgt m p q s bs
 |[],s,_,h0,_,he=>absurd he h0
 |b::bs,s,hs,h0,hb,he=>by
  have h':(decide (b=0∨b=1)&&ZaD bs)=true:=hb
  rw[Bool.and_eq_true]at h'
  have hbb:=of_decide_eq_true h'.1
  have h2:=Za5 (Zan hv).1
  obtain⟨s1,s2,s3⟩:=Zko hv (s:=s) (b:=b) (by omega) hbb
  rw[ZfD]at he
  rw[wgt]
  by_cases hz:nxS m s b=0
  ·have:=hf.z s b hs h0 hbb hz
   have:=Zns m p q bs (nxS m s b).toNat
   omega
  ·have i:=Zlo bs (nxS m s b).toNat (by omega) (by omega) h'.2 he
   have:=hf.n s b hs h0 hbb hz
   omega
theorem Zl2:∀(bs:List Int),ZaD bs=true→ZfD m 0 bs=0→(∃x∈bs,x=1)→d≤wgt m p q 0 bs
 |[],_,_,⟨x,hx,_⟩=>by cases hx
 |b::bs,hb,he,⟨x,hx,hx1⟩=>by
  have h':(decide (b=0∨b=1)&&ZaD bs)=true:=hb
  rw[Bool.and_eq_true]at h'
  have hbb:=of_decide_eq_true h'.1
  have h2:=Za5 (Zan hv).1
  obtain⟨s1,s2,s3⟩:=Zko hv (s:=(0:Nat)) (b:=b) (by omega) hbb
  rw[ZfD]at he
  rw[wgt]
  rcases hbb with rfl |rfl
  ·have e:(nxS m (0:Nat) 0).toNat=0:=Zpo (Zan hv).1
   rw[e]at he⊢
   have hx':x∈bs:=by
    rcases List.mem_cons.1 hx with r |r
    ·omega
    ·exact r
   have i:=Zl2 bs h'.2 he ⟨x,hx',hx1⟩
   have:=Zpk m p q (0:Nat) 0
   omega
  ·have h1:=ZxP hv
   have i:=Zlo hv hf bs (nxS m (0:Nat) 1).toNat (by omega) (by omega) h'.2 he
   have:=hf.b
   have e:((0:Nat):Int)=0:=rfl
   rw[e]at i⊢
   omega
end
theorem Zz3(a b:Int):xb a b=0∨xb a b=1:=by unfold xb;split<;>simp
def ZrH:List Int→List Int→List Int
 |a::u,b::v=>xb a b::ZrH u v
 |_,_=>[]
theorem Zi4:∀a b:List Int,ZaD (ZrH a b)=true
 |[],_=>rfl
 |_::_,[]=>rfl
 |x::a,y::b=>by
  have:=Zi4 a b
  unfold ZaD at*
  rw[ZrH,List.all_cons,this,Bool.and_true]
  exact decide_eq_true (Zz3 x y)
theorem ZnO:∀ {a b:List Int},a.length=b.length→a≠b→∃x∈ZrH a b,x=1
 |[],[],_,h=>absurd rfl h
 |[],_::_,h,_=>by simp at h
 |_::_,[],h,_=>by simp at h
 |x::a,y::b,hl,h=>by
  by_cases hxy:x=y
  ·subst hxy
   obtain⟨z,hz,h1⟩:=ZnO (a:=a) (b:=b) (by simpa using hl) (fun e=>h (by rw[e]))
   exact⟨z,List.mem_cons_of_mem _ hz,h1⟩
  ·exact⟨xb x y,List.mem_cons_self,by unfold xb;rw[if_neg hxy]⟩
section
variable {m p q:Int}(hv:Zaw m p q=0)
include hv
theorem ZlB:∀(a b:List Int) (s u:Nat),a.length=b.length→ZaD a=true→ZaD b=true→s<stS m→u<stS m→
 ZgO (ZjJ m p q s a) (ZjJ m p q u b)=wgt m p q (s ^^^ u) (ZrH a b)∧ZfD m (s ^^^ u) (ZrH a b)=ZfD m s a ^^^ ZfD m u b
 |[],[],s,u,_,_,_,_,_=>by simp[ZjJ,ZgO,wgt,ZrH,ZfD]
 |[],_::_,_,_,h,_,_,_,_=>by simp at h
 |_::_,[],_,_,h,_,_,_,_=>by simp at h
 |x::a,y::b,s,u,hl,ha,hb,hs,hu=>by
  have ha':(decide (x=0∨x=1)&&ZaD a)=true:=ha
  have hb':(decide (y=0∨y=1)&&ZaD b)=true:=hb
  rw[Bool.and_eq_true]at ha' hb'
  have hx:=of_decide_eq_true ha'.1
  have hy:=of_decide_eq_true hb'.1
  obtain⟨hm,p1,p2,q1,q2,p3,q3⟩:=Zan hv
  have h2:=Za5 hm
  obtain⟨_,x2,x3⟩:=Zko hv (s:=s) (b:=x) (by omega) hx
  obtain⟨_,y2,y3⟩:=Zko hv (s:=u) (b:=y) (by omega) hy
  obtain⟨l1,l2⟩:=Zsr (g:=p) hm ⟨by omega,p3⟩ hs hu hx hy
  obtain⟨l3,_⟩:=Zsr (g:=q) hm ⟨by omega,q3⟩ hs hu hx hy
  obtain⟨i1,i2⟩:=ZlB a b (nxS m s x).toNat (nxS m u y).toNat (by simpa using hl) ha'.2 hb'.2 (by omega) (by omega)
  rw[Int.toNat_of_nonneg x2,Int.toNat_of_nonneg y2]at i1
  rw[←l2]at i1 i2
  rw[ZjJ,ZjJ,ZgO,ZgO,ZrH,wgt,ZfD,i1,ZfD,ZfD]
  refine⟨?_,i2⟩
  unfold wt
  rw[←l1,←l3]
  unfold xb
  omega
end
section
variable {m p q:Int}{so:List Int}(h:OkC m p q so)
include h
theorem ZrI{a b:List Int}(ha:ZaD a=true)(hb:ZaD b=true)(hla:a.length=ZbF m so)(hlb:b.length=ZbF m so)(hne:a≠b):frI m p q≤ZgO (Za2 m p q a) (Za2 m p q b):=by
 obtain⟨ws,hf⟩:=Zoi h.cv
 have h2:=Za5 (Zan h.cv).1
 obtain⟨d1,d2⟩:=ZlB h.cv (a++List.replicate m.toNat 0) (b++List.replicate m.toNat 0) 0 0 (by simp;omega) (ZfC ha (ZfI _)) (ZfC hb (ZfI _)) (by omega) (by omega)
 rw[ZhT h ha hla,ZhT h hb hlb]at d2
 have w:=Zl2 h.cv hf (ZrH (a++List.replicate m.toNat 0) (b++List.replicate m.toNat 0)) (Zi4 _ _) d2 (ZnO (by simp;omega) (fun e=>hne (List.append_cancel_right e)))
 unfold Za2
 rw[show ((0:Nat):Int)=0 from rfl]at d1
 rw[d1];exact w
end
def spL(ats:List Int)(sz:Int):Nat→List Int→List Int
 |_,[]=>[]
 |i,x::l=>(if (i:Int)∈ats then -(sz*(1-2*x))else sz*(1-2*x))::spL ats sz (i+1) l
def spN(ats:List Int):Nat→List Int→Int
 |_,[]=>0
 |i,_::l=>(if (i:Int)∈ats then 1 else 0)+spN ats (i+1) l
theorem Zh0(ats:List Int)(sz:Int):∀(l:List Int) (i:Nat),(spL ats sz i l).length=l.length
 |[],_=>rfl
 |x::l,i=>by rw[spL,List.length_cons,Zh0 ats sz l,List.length_cons]
theorem ZoU(ats:List Int):∀(l:List Int) (i:Nat),0≤spN ats i l∧spN ats i l≤l.length
 |[],_=>by simp[spN]
 |x::l,i=>by
  have:=ZoU ats l (i+1)
  rw[spN,List.length_cons];split<;>omega
theorem Zoc(ats:List Int){sz:Int}(hs:1≤sz∧sz≤7):∀(l:List Int) (i:Nat),ZaD l=true→(spL ats sz i l).all (fun x=>Zas x (-7) 7)=true
 |[],_,_=>rfl
 |x::l,i,h=>by
  have h':(decide (x=0∨x=1)&&ZaD l)=true:=h
  rw[Bool.and_eq_true]at h'
  have hx:=of_decide_eq_true h'.1
  rw[spL,List.all_cons,Zoc ats hs l (i+1) h'.2,Bool.and_true]
  refine decide_eq_true ?_
  rcases hx with rfl |rfl<;>split<;>omega
def Zod(ats:List Int):Nat→List Int→List Int→Int
 |i,x::l,y::r=>(if (i:Int)∈ats then(if x=y then 1 else 0)else(if x=y then 0 else 1))+Zod ats (i+1) l r
 |_,_,_=>0
theorem ZsC(ats:List Int):∀(l r:List Int) (i:Nat),ZgO l r-spN ats i l≤Zod ats i l r
 |[],_,_=>by simp[ZgO,Zod,spN]
 |x::l,[],i=>by
  have:=ZoU ats (x::l) i
  simp only[ZgO,Zod];omega
 |x::l,y::r,i=>by
  have:=ZsC ats l r (i+1)
  rw[ZgO,spN,Zod]
  split<;>split<;>omega
theorem ZlH(ats:List Int):∀(l:List Int) (i:Nat),Zod ats i l l=spN ats i l
 |[],_=>rfl
 |x::l,i=>by rw[Zod,spN,ZlH ats l (i+1)];simp
theorem ZjT(ats:List Int)(sz:Int)(so:List Int):∀(l r:List Int) (i:Nat),l.length=r.length→ZaD l=true→ZaD r=true→so.drop i=spL ats sz i l→Zps so i r=sz*(l.length-2*Zod ats i l r)
 |[],[],_,_,_,_,_=>by simp[Zps,Zod]
 |[],_::_,_,h,_,_,_=>by simp at h
 |_::_,[],_,h,_,_,_=>by simp at h
 |x::l,y::r,i,hl,ha,hb,hd=>by
  have ha':(decide (x=0∨x=1)&&ZaD l)=true:=ha
  have hb':(decide (y=0∨y=1)&&ZaD r)=true:=hb
  rw[Bool.and_eq_true]at ha' hb'
  have hx:=of_decide_eq_true ha'.1
  have hy:=of_decide_eq_true hb'.1
  rw[spL]at hd
  have hlt:i<so.length:=by
   by_cases hc:i<so.length
   ·exact hc
   ·rw[List.drop_of_length_le (by omega)]at hd;cases hd
  rw[Ziy hlt]at hd
  injection hd with e1 e2
  have ih:=ZjT ats sz so l r (i+1) (by simpa using hl) ha'.2 hb'.2 e2
  rw[Zps,ih,Zod,e1,List.length_cons]
  unfold coI
  generalize Zod ats (i+1) l r=D
  generalize hL:(l.length:Int)=L
  rw[Int.natCast_add,hL]
  have e3:sz*(L+((1:Nat):Int)-2*(1+D))=sz*(L-2*D)-sz:=by
   rw[show (L+((1:Nat):Int)-2*(1+D))=(L-2*D)-1 by omega,Int.mul_sub,Int.mul_one]
  have e4:sz*(L+((1:Nat):Int)-2*(0+D))=sz*(L-2*D)+sz:=by
   rw[show (L+((1:Nat):Int)-2*(0+D))=(L-2*D)+1 by omega,Int.mul_add,Int.mul_one]
  rcases hx with rfl |rfl<;>rcases hy with rfl |rfl<;>by_cases hi:(i:Int)∈ats<;>simp only[hi,if_false,if_pos,Int.reduceEq]<;>first |(rw [e3];omega) |(rw [e4];omega)
section
variable {m p q:Int}(hv:Zaw m p q=0){bs ats:List Int}{sz:Int}(hl:bs.length≤300)(hs:1≤sz∧sz≤7)
include hv hl hs
theorem Zr2:OkC m p q (spL ats sz 0 (Za2 m p q bs)):=by
 have hm:=(Zan hv).1
 have e:=Zh0 ats sz (Za2 m p q bs) 0
 have e2:=Zc3 m p q bs
 refine⟨hv,?_⟩
 unfold sfE Zdr
 rw[if_neg (by omega),if_neg (by omega),if_pos (Zoc ats hs (Za2 m p q bs) 0 (Zbz m p q _ 0))]
theorem Zow(hb:ZaD bs=true)(hd:2*spN ats 0 (Za2 m p q bs)<frI m p q):blI m p q (spL ats sz 0 (Za2 m p q bs))=bs∧bvI m p q (spL ats sz 0 (Za2 m p q bs))=sz*((Za2 m p q bs).length-2*spN ats 0 (Za2 m p q bs)):=by
 have ho:=Zr2 hv hl hs (ats:=ats)
 have hm:=(Zan hv).1
 have e:=Zh0 ats sz (Za2 m p q bs) 0
 have e2:=Zc3 m p q bs
 obtain⟨b1,b2,b3⟩:=ZpL ho
 have hn:bs.length=ZbF m (spL ats sz 0 (Za2 m p q bs)):=by unfold ZbF;omega
 have m1:=Zw5 ho hb hn
 have s1:=ZjT ats sz (spL ats sz 0 (Za2 m p q bs)) (Za2 m p q bs) (Za2 m p q bs) 0 rfl (Zbz m p q _ 0) (Zbz m p q _ 0) rfl
 rw[ZlH]at s1
 have hle:(Za2 m p q (blI m p q (spL ats sz 0 (Za2 m p q bs)))).length=(Za2 m p q bs).length:=by rw[Zc3,Zc3,b3,hn]
 have s2:=ZjT ats sz (spL ats sz 0 (Za2 m p q bs)) (Za2 m p q bs) (Za2 m p q (blI m p q (spL ats sz 0 (Za2 m p q bs)))) 0 hle.symm (Zbz m p q _ 0) (Zbz m p q _ 0) rfl
 by_cases heq:blI m p q (spL ats sz 0 (Za2 m p q bs))=bs
 ·refine⟨heq,?_⟩
  rw[←b1,heq,s1]
 ·exfalso
  have dm:=ZrI ho hb b2 hn b3 (fun x=>heq x.symm)
  have dg:=ZsC ats (Za2 m p q bs) (Za2 m p q (blI m p q (spL ats sz 0 (Za2 m p q bs)))) 0
  rw[s1]at m1
  rw[s2]at b1
  rw[←b1]at m1
  have:=Int.le_of_mul_le_mul_left m1 (by omega)
  omega
end
end Go.Proofs.Ytklbmkllepkjcaa
/- The forward metrics are potentials; their bound is the best metric. No condition. -/
namespace Go.Proofs.Ytklbmkllepkjcaa
section
variable {m p q:Int}{so:List Int}
end
section
variable {m p q:Int}{so:List Int}(h:OkC m p q so)
include h
end
section
variable {m p q:Int}{so:List Int}{ps:List AV}(h:OkC m p q so)
include h
end
section
variable {m p q:Int}{so:List Int}(h:OkC m p q so)
include h
theorem Zqi:cdW m p q so=0:=by rw[Zu0];unfold cdE;rw[h.cv];simp[h.sf]
end
end Go.Proofs.Ytklbmkllepkjcaa
/- The law of what is within half of the distance: the walk. No condition. -/
namespace Go.Proofs.Ytklbmkllepkjcaa
section
variable {C:Ctx}(hC:C.P=Try.prog)(m p q:Int)(hv:Zaw m p q=0)(bs ats:List Int)(sz:Int)(hl:bs.length≤24)(hs:1≤sz∧sz≤7)(ha:ats.length≤10)
include hC hv hl hs ha
theorem ZkK(hb:ZaD bs=true):∀(k i:Nat) (n:Int) (l:List Int),i+k=(Za2 m p q bs).length→l.length=i→0≤n→n≤i→n+spN ats i ((Za2 m p q bs).drop i)=spN ats 0 (Za2 m p q bs)→l++spL ats sz i ((Za2 m p q bs).drop i)=spL ats sz 0 (Za2 m p q bs)→
 Ev C (ZkJ m p q bs ats sz (Za2 m p q bs) (frI m p q) n i l) (Zh3 m p q bs ats sz (Za2 m p q bs) (frI m p q) n i l) (Zb1 5 (.bool true) none):=by
 have hm:=(Zan hv).1
 have he:=Zc3 m p q bs
 intro k
 induction k with
 |zero=>
  intro i n l hi hll h0 h1 hn hsp
  rw[List.drop_of_length_le (by omega)]at hn hsp
  rw[spN,Int.add_zero]at hn
  rw[spL,List.append_nil]at hsp
  subst hn hsp
  refine tgo hC ZtC ZlX ?_
  have hsl:=Zh0 ats sz (Za2 m p q bs) 0
  by_cases hd:frI m p q≤2*spN ats 0 (Za2 m p q bs)
  ·simp[Zek,show ¬(i:Int)<(Za2 m p q bs).length by omega,hd]
   omega
  ·obtain⟨w1,w2⟩:=Zow hv (ats:=ats) (by omega) hs hb (by omega)
   have ho:=Zr2 hv (bs:=bs) (ats:=ats) (by omega) hs
   have e:=Zqi ho
   have e1:blW m p q (spL ats sz 0 (Za2 m p q bs))=bs:=by unfold blW;rw[if_pos e,w1]
   have e2:bvW m p q (spL ats sz 0 (Za2 m p q bs))=sz*((Za2 m p q bs).length-2*spN ats 0 (Za2 m p q bs)):=by unfold bvW;rw[if_pos e,w2]
   have hsn:=ZoU ats (Za2 m p q bs) 0
   have hb1: -1000≤sz*((Za2 m p q bs).length-2*spN ats 0 (Za2 m p q bs))∧sz*((Za2 m p q bs).length-2*spN ats 0 (Za2 m p q bs))≤1000:=by
    have hD: -54≤((Za2 m p q bs).length:Int)-2*spN ats 0 (Za2 m p q bs)∧((Za2 m p q bs).length:Int)-2*spN ats 0 (Za2 m p q bs)≤54:=by omega
    generalize ((Za2 m p q bs).length:Int)-2*spN ats 0 (Za2 m p q bs)=D at hD⊢
    rcases(show sz=1∨sz=2∨sz=3∨sz=4∨sz=5∨sz=6∨sz=7 by omega)with h |h |h |h |h |h |h<;>rw[h]<;>omega
   simp[Zek,show ¬(i:Int)<(Za2 m p q bs).length by omega,hd,hsl,e,e1,e2,show(Za2 m p q bs).length≤1000000 by omega,show bs.length≤1000000 by omega]
   omega
 |succ k ih=>
  intro i n l hi hll h0 h1 hn hsp
  have hlt:i<(Za2 m p q bs).length:=by omega
  have hlt2:(i:Int)<(Za2 m p q bs).length:=by omega
  rw[Ziy hlt]at hn hsp
  rw[spN]at hn
  rw[spL]at hsp
  have hx:=Zsa (Zbz m p q (bs++List.replicate m.toNat 0) 0) i
  have hx:(Za2 m p q bs).getD i 0=0∨(Za2 m p q bs).getD i 0=1:=hx
  refine tgo hC ZtC ZlX ?_
  have hal:ats.length≤1000000:=by omega
  by_cases hi2:(i:Int)∈ats
  ·rw[if_pos hi2]at hn hsp
   have next:=ih (i+1) (n+1) (l++[-(sz*(1-2*(Za2 m p q bs).getD i 0))]) (by omega) (by simp;omega) (by omega) (by omega) (by omega) (by rw[List.append_assoc];exact hsp)
   rcases hx with hx |hx<;>rw[hx]at next<;>simp[-List.getD_eq_getElem?_getD,Zek,hlt,hlt2,hi2,hx,hal,AV.bx,Zam]at next⊢ <;>refine⟨?_,?_,next⟩<;>omega
  ·rw[if_neg hi2]at hn hsp
   have next:=ih (i+1) n (l++[sz*(1-2*(Za2 m p q bs).getD i 0)]) (by omega) (by simp;omega) (by omega) (by omega) (by omega) (by rw[List.append_assoc];exact hsp)
   rcases hx with hx |hx<;>rw[hx]at next<;>simp[-List.getD_eq_getElem?_getD,Zek,hlt,hlt2,hi2,hx,hal,AV.bx,Zam]at next⊢ <;>refine⟨?_,?_,next⟩<;>omega
end
theorem Zmt(m p q:Int)(bs ats:List Int)(sz:Int):Zah Try.prog 5 [.agg (.gen [.int .i64 m, .int .i64 p, .int .i64 q]), .list (.ints .i64 bs), .agg (.gen [.list (.ints .i64 ats), .int .i64 sz])] (.bool true) none:=by
 refine start (Zv3 m p q bs ats sz) fun C hC=>tgo hC ZtC ZDd ?_
 by_cases hv:Zaw m p q=0
 ·by_cases h1:(24:Int)<bs.length
  ·simp[Zud,hv,h1]
  ·have hbl:bs.length≤1000000:=by omega
   by_cases h2:bsE bs=0
   ·by_cases h3:(10:Int)<ats.length
    ·simp[Zud,hv,h1,h2,h3,hbl]
    ·cases h4:Zas sz 1 7 with
     |false=>simp[Zud,hv,h1,h2,h3,h4,hbl]
     |true=>
      have hs:=of_decide_eq_true h4
      obtain⟨_,hb⟩:=ZrY h2
      have hm:=(Zan hv).1
      have e1:ebF m p q bs=0:=by simp[ebF,ZaL,hv,h2]
      have e2:ebL m p q bs=Za2 m p q bs:=by unfold ebL;rw[if_pos e1]
      have he:=Zc3 m p q bs
      have e3:((Za2 m p q bs).length:Int)=2*(bs.length+m):=by omega
      have e4:ZaD (Za2 m p q bs)=true:=Zbz m p q _ 0
      obtain⟨ws,hf⟩:=Zoi hv
      have e5:Zas (frI m p q) 1 100=true:=decide_eq_true hf.r
      have i:=ZkK hC m p q hv bs ats sz (by omega) hs (by omega) hb (Za2 m p q bs).length 0 0 [] (by omega) rfl (by omega) (by omega) (by simp) (by simp)
      simp[Zud,hv,h1,h2,h3,h4,hbl,e1,e2,e3,e4,e5,show(Za2 m p q bs).length≤1000000 by omega]at i⊢
      exact⟨by omega,by omega,i⟩
   ·simp[Zud,hv,h1,h2,hbl]
 ·simp[Zud,hv]
end Go.Proofs.Ytklbmkllepkjcaa
/- CodeWithin: for every input it returns true, and the arguments read as they did. No condition. -/
namespace Go.Proofs.Ytklbmkllepkjcaa
open Go.ChangeShapes Go.WideShapes Go.ChangeAt Go.RowKit
theorem sh5_0:ZrA Try.prog 8 24=some [.int .i64, .int .i64, .int .i64]:=by kernel_rfl
theorem sh5_1:ZrA Try.prog 8 25=some [.ints .i64]:=by kernel_rfl
theorem sh5_2:ZrA Try.prog 8 47=some [.ints .i64, .int .i64]:=by kernel_rfl
set_option maxRecDepth 100000 in
theorem law5(os:Os)(started:os.Started)(H:Type)(enc:TypeId×Value→H):
 ReturnsInHanded {} Try.checked os 5 .any (Rows.codeWithinSpec.pre6 enc Try.prog Try.f5 Rows.codeWithinRow.domain false) (Rows.codeWithinSpec.post enc Try.prog Try.f5 false true false false):=by
 refine returnsInHanded_of_change (C:=Try.checked) own started (by kernel_rfl) Try.func5
  (ChangeSpec.witness6 (enc:=enc) (C:=Try.checked) false ⟨#[], #[.agg #[.int .i64 0, .int .i64 0, .int .i64 0], .slice none 0 0, .agg #[.slice none 0 0, .int .i64 0]],[]⟩ 8 (by kernel_rfl) (by kernel_rfl) (by kernel_rfl) (by kernel_rfl)) ?_
 intro W base args ds gs before hval0 hW _ _
 have hval:∀(j:Nat) t v,Try.f5.params[j]? =some t→args[j]? =some v→Value.okWide Try.prog W .any base t v:=hval0
 have hW':=hW
 obtain⟨p,q,hA0,hV,rfl,_,_⟩:=hW
 have hA:DataW.TrodAll enc Try.prog W 0 (fun _=>true) true Try.f5.params.toList args.toList ds p:=hA0
 rw[Try.params5]at hA hval
 obtain⟨v0,v1,v2,d0,d1,d2,p0,p1,p2,rfl,rfl,rfl,h0,h1,h2⟩:=trodAll_three hA
 obtain⟨rfl,rfl⟩:=trodVars_none hV
 have hlt:∀x∈p0++(p1++p2),x.block<W.heap.size:=fun x hx=>by simpa using hW'.lt x (by simpa using hx)
 obtain⟨us0,r0,c0⟩:=Zsk (L:=⟨fun _ _=>0,fun _ _=>0⟩) sh5_0 (okWide_struct Try.underlying24 (hval 0 24 v0 rfl rfl)) h0
 obtain⟨m,g0,g1,rfl⟩:=ZuT c0
 obtain⟨u1,r1,c1⟩:=ZwC (L:=⟨fun _ _=>0,fun _ _=>0⟩) sh5_1 (by obtain⟨a,l,c,rfl⟩:=okWide_slice Try.underlying25 (hval 1 25 v1 rfl rfl);rfl) h1
 obtain⟨bs,rfl,_⟩:=ZoY c1
 obtain⟨us2,r2,c2⟩:=Zsk (L:=⟨fun _ _=>0,fun _ _=>0⟩) sh5_2 (okWide_struct Try.underlying47 (hval 2 47 v2 rfl rfl)) h2
 obtain⟨ats,sz,rfl⟩:=Znl c2
 refine(Zqw trivial (Zmt m g0 g1 bs ats sz) (RelL.cons ( r0) (RelL.cons ( r1) (RelL.cons ( r2) RelL.nil)))).mono fun e W' ⟨he,hb⟩=>?_
 subst he
 refine⟨_,rfl,_,_,_,[],p0++(p1++p2),[],hW',trodAll_mk1 (shut_bool Try.underlying4 true),?_,rfl,hb.frame _,fun h=>by cases h⟩
 exact trodAll_mk3 (Below.trod ZjO (by kernel_rfl) (of_decide_eq_true (by kernel_rfl)) h0 hb (fun x hx=>hlt x (List.mem_append_left _ hx))) (Below.trod ZjO (by kernel_rfl) (of_decide_eq_true (by kernel_rfl)) h1 hb (fun x hx=>hlt x (List.mem_append_right _ (List.mem_append_left _ hx)))) (Below.trod ZjO (by kernel_rfl) (of_decide_eq_true (by kernel_rfl)) h2 hb (fun x hx=>hlt x (List.mem_append_right _ (List.mem_append_right _ hx))))
theorem n5 : Try.checked.prog.funcNamed "cassegrain/cassegrainlaw05.CodeWithin" = some 5 := by kernel_rfl
theorem j5:joinedFacts Try.checked.prog 5 Try.f5 Rows.codeWithinSpec Rows.codeWithinRow=true:=by kernel_rfl
theorem i5:Try.f5.isInstance Try.checked.prog Rows.codeWithinRow.origin Rows.codeWithinRow.targs:=of_decide_eq_true (by kernel_rfl)
theorem w5:Try.f5.isWrapper Try.checked.prog Rows.codeWithinRow.wrapper Rows.codeWithinRow.mainSum:=by
 unfold Func.isWrapper
 first |(rw [if_pos (by decide +kernel)];kernel_rfl) |(rw [if_neg (by decide +kernel)];exact⟨rfl,rfl⟩)
theorem CodeWithin_holds:Rows.CodeWithinSaid:=
 OpenClaim.holds_of_wide 5 Try.f5 rfl rfl rfl rfl rfl rfl rfl ⟨rfl,rfl,rfl,rfl,rfl⟩ rfl rfl rfl rfl rfl n5 Try.func5 j5 i5 w5 (fun os started H enc _=>law5 os started H enc)
#print axioms CodeWithin_holds
end Go.Proofs.Ytklbmkllepkjcaa
