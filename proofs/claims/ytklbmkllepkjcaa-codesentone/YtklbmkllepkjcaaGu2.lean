/- Contracts as a list. No condition. -/
import Derived.Test.YtklbmkllepkjcaaGg
import Derived.KernelRfl
namespace Go.Proofs.Ytklbmkllepkjcaa
def poM(s:List Int)(u:Nat):Mat:=fun j i=>if i<u then(s.getD (j+u-(i+1)) 0).toNat else if i=u then(s.getD (j+u) 0).toNat else 0
def evP(z:Nat):Nat→Nat→List Nat→Nat
 |m,_,[]=>m
 |m,t,a::l=>evP z (m ^^^ Zat a (Zat t z)) (Zat t z) l
def zN(i:Nat):Nat:=Zg9 (Zbp (14-i))
def cN(B:Mat)(u:Nat):List Nat:=(List.range u).map fun j=>B j u
def poX(c:List Nat)(n:Nat):List Int:=((List.range n).filter fun i=>evP (zN i) 1 1 c==0).map fun i:Nat=>(i:Int)
def poB(s:List Int)(u:Nat):Option Mat:=elA (s.length-u) u 0 (poM s u)
def poC(s:List Int)(u:Nat):Option (List Nat):=match poB s u with
 |none=>none
 |some B=>if fiZ (s.length-u) u B=true then some (cN B u)else none
def ZiK(s:List Int)(u:Nat):List Int:=match poC s u with
 |none=>[]
 |some c=>poX c 15
def poO(s:List Int)(u:Nat):Bool:=match poC s u with
 |none=>false
 |some c=>decide ((poX c 15).length=u)
theorem Zv5{s:List Int}(h:s.all elB=true)(j:Nat):elB (s.getD j 0)=true:=by
 by_cases hj:j<s.length
 ·exact List.all_eq_true.1 h _ (ZbA hj)
 ·rw[List.getD_eq_getElem?_getD,List.getElem?_eq_none (by omega)];rfl
theorem ZnP{s:List Int}(h:s.all elB=true)(u:Nat):ElM (poM s u):=fun j i=>by
 have k:=fun n=>of_decide_eq_true (Zv5 h n)
 unfold poM
 split
 ·have:=k (j+u-(i+1));omega
 ·split
  ·have:=k (j+u);omega
  ·decide
def pwM(s:List Int)(u n:Nat):List (List Int):=(List.range n).map fun j=>Zcf u (poM s u j)
theorem ZrX(s:List Int)(u n:Nat):(pwM s u n).length=n:=by simp[pwM]
theorem Zus(s:List Int)(u n:Nat):pwM s u (n+1)=pwM s u n++[Zcf u (poM s u n)]:=by unfold pwM;rw[List.range_succ,List.map_append];rfl
theorem Zwq(s:List Int)(u R:Nat):St R u (List.range R) (pwM s u R) (poM s u):=by
 have g:∀i,i<R→(List.range R).getD i 0=i:=fun i hi=>by rw[List.getD_eq_getElem?_getD,List.getElem?_range hi];rfl
 refine⟨List.length_range,fun i j hi hj e=>by rw[g i hi,g j hj]at e;exact e,fun i hi=>by rw[g i hi,ZrX];exact hi,fun i hi=>?_⟩
 rw[g i hi]
 unfold pwM
 rw[List.getD_eq_getElem?_getD,List.getElem?_map,List.getElem?_range hi];rfl
def pwP(s:List Int)(u j n:Nat):List Int:=(List.range n).map fun i=>s.getD (j+u-(i+1)) 0
theorem Zqn(s:List Int)(u j n:Nat):(pwP s u j n).length=n:=by simp[pwP]
theorem Zuo(s:List Int)(u j n:Nat):pwP s u j (n+1)=pwP s u j n++[s.getD (j+u-(n+1)) 0]:=by unfold pwP;rw[List.range_succ,List.map_append];rfl
theorem ZxJ{s:List Int}(h:s.all elB=true)(u j:Nat):pwP s u j u++[s.getD (j+u) 0]=Zcf u (poM s u j):=by
 have k:=fun n=>of_decide_eq_true (Zv5 h n)
 unfold Zcf
 rw[List.range_succ,List.map_append]
 congr 1
 ·unfold pwP
  refine List.map_congr_left fun i hi=>?_
  rw[poM,if_pos (List.mem_range.1 hi)]
  have:=k (j+u-(i+1));omega
 ·rw[List.map_cons,List.map_nil,poM,if_neg (Nat.lt_irrefl _),if_pos rfl]
  have:=k (j+u)
  congr 1;omega
section
variable {C:Ctx}(hC:C.P=Try.prog)(s:List Int)(hs:s.all elB=true)(hl:s.length≤6)(u:Nat)(hu:u≤6)
include hC hs hl hu
theorem ZBl(j:Nat)(hj:j+u<s.length)(l1:List Nat)(l2:List (List Int))(h1:l1.length≤1000)(r:AV)(fr:Option Fresh)
 (hn:Ev C (Zc3 s u ((j+1:Nat):Int) (l1++[l2.length]) (l2++[Zcf u (poM s u j)])) (Zcy s u ((j+1:Nat):Int) (l1++[l2.length]) (l2++[Zcf u (poM s u j)])) (ZaZ 116 r fr)):
 ∀(c i:Nat),i+c=u→Ev C (ZeT s u j l1 l2 ((i+1:Nat):Int) (pwP s u j i)) (Zdr s u j l1 l2 ((i+1:Nat):Int) (pwP s u j i)) (ZaZ 116 r fr):=by
 intro c
 induction c with
 |zero=>
  intro i hc
  have q:=Zqn s i j i
  have k1:((j:Int)+(u:Int)).toNat=j+u:=by omega
  rw[←ZxJ hs,←show i=u by omega]at hn
  rw[←show i=u by omega]at k1 hj⊢
  refine tgo hC ZaH ZgN ?_
  simp only[ZdJ,Zmc,Zbj,ZbP,k1]
  simp[-List.getD_eq_getElem?_getD,hj,show ¬(i:Int)+1≤(i:Int) by omega,q,AV.bx,Zaf]at hn⊢
  exact⟨by omega,hn⟩
 |succ c ih=>
  intro i hc
  have q:=Zqn s u j i
  have i0:=ih (i+1) (by omega)
  rw[Zuo]at i0
  have k1:((j:Int)+(u:Int)-((i+1:Nat):Int)).toNat=j+u-(i+1):=by omega
  have hlt:j+u-(i+1)<s.length:=by omega
  refine tgo hC ZaH ZgN ?_
  simp only[ZdJ,Zmc,ZtS,Zbj,ZbP,k1]
  simp[-List.getD_eq_getElem?_getD,hlt,show(i:Int)+1≤(u:Int) by omega,q,AV.bx,Zaf]at i0⊢
  refine⟨?_,i0⟩
  omega
theorem ZvD(huS:u≤s.length)(r:AV)(fr:Option Fresh)
 (hn:Ev C (ZbI s u ((s.length-u:Nat):Int) ((s.length:Nat):Int) ((s.length:Nat):Int) false 0 (List.range (s.length-u)) (pwM s u (s.length-u))) (Zbr s u ((s.length-u:Nat):Int) ((s.length:Nat):Int) ((s.length:Nat):Int) false 0 (List.range (s.length-u)) (pwM s u (s.length-u))) (ZaZ 116 r fr)):
 ∀(c j:Nat),j+c=s.length-u→Ev C (Zc3 s u j (List.range j) (pwM s u j)) (Zcy s u j (List.range j) (pwM s u j)) (ZaZ 116 r fr):=by
 intro c
 induction c with
 |zero=>
  intro j hc
  refine tgo hC ZaH ZgP ?_
  have e1:(j:Int)+(u:Int)=(s.length:Int):=by omega
  rw[←show j=s.length-u by omega]at hn
  simp only[ZdL,Zmc,e1]
  simp[-List.getD_eq_getElem?_getD]at hn⊢
  exact⟨by omega,hn⟩
 |succ c ih=>
  intro j hc
  have i0:=ih (j+1) (by omega)
  have q:=ZrX s u j
  rw[Zus,List.range_succ]at i0
  have i1:=ZBl hC s hs hl u hu j (by omega) (List.range j) (pwM s u j) (by simp;omega) r fr (by rw[q];exact i0) u 0 (by omega)
  refine tgo hC ZaH ZgP ?_
  simp[-List.getD_eq_getElem?_getD,ZdL,show(j:Int)+(u:Int)<(s.length:Int) by omega,pwP]at i1⊢
  exact⟨by omega,i1⟩
end
theorem ZkB(c:List Nat)(n:Nat):poX c (n+1)=if evP (zN n) 1 1 c=0 then poX c n++[(n:Int)]else poX c n:=by
 unfold poX
 rw[List.range_succ,List.filter_append,List.map_append]
 by_cases h:evP (zN n) 1 1 c=0<;>simp[h]
theorem Zr0(c:List Nat):∀n,(poX c n).length≤n
 |0=>by simp[poX]
 |n+1=>by
  have:=Zr0 c n
  rw[ZkB];split<;>simp<;>omega
theorem ZBR{B:Mat}{u j:Nat}(h:j<u):(cN B u).drop j=B j u::(cN B u).drop (j+1):=by
 rw[List.drop_eq_getElem_cons (by simp[cN];exact h)]
 simp[cN]
theorem ZB3(B:Mat)(u:Nat):(cN B u).length=u:=by simp[cN]
theorem ZFv(i:Nat):zN i<16:=(ZsK (ZbU _) (Zpl _)).1
section
variable {C:Ctx}(hC:C.P=Try.prog)(u:Nat)(hu:u≤6)(rows:List (List Int)){B:Mat}(hB:ElM B)
include hC hu hB
theorem ZAv(i:Nat)(hi:i<15)(l:List Int)(hl:l.length≤15)(r:AV)(fr:Option Fresh)
 (hn:Ev C (ZbK u rows (ZcI B u u) ((i+1:Nat):Int) (if evP (zN i) 1 1 (cN B u)=0 then l++[(i:Int)]else l)) (Zbq u rows (ZcI B u u) ((i+1:Nat):Int) (if evP (zN i) 1 1 (cN B u)=0 then l++[(i:Int)]else l)) (ZaZ 116 r fr)):
 ∀(c k m t:Nat),k+c=u→m<16→t<16→evP (zN i) m t ((cN B u).drop k)=evP (zN i) 1 1 (cN B u)→Ev C (ZeU u rows (ZcI B u u) i l u ((m:Nat):Int) ((t:Nat):Int) k ((zN i:Nat):Int)) (ZdW u rows (ZcI B u u) i l u ((m:Nat):Int) ((t:Nat):Int) k ((zN i:Nat):Int)) (ZaZ 116 r fr):=by
 intro c
 induction c with
 |zero=>
  intro k m t hc hm ht he
  rw[List.drop_of_length_le (by rw[ZB3];omega),evP]at he
  refine tgo hC ZaH ZgO ?_
  rw[←he]at hn
  by_cases h0:m=0
  ·subst h0
   simp[-List.getD_eq_getElem?_getD,Zcz,show ¬(k:Int)<(u:Int) by omega,AV.bx,Zaf]at hn⊢
   exact⟨by omega,hn⟩
  ·have h0':¬((m:Nat):Int)=0:=by omega
   simp[-List.getD_eq_getElem?_getD,Zcz,show ¬(k:Int)<(u:Int) by omega,h0,AV.bx,Zaf]at hn⊢
   exact⟨by omega,hn⟩
 |succ c ih=>
  intro k m t hc hm ht he
  have hk:k<u:=by omega
  rw[ZBR hk,evP]at he
  have z16:=ZFv i
  have l1:=Zbt ht z16
  have l2:=Zbt (hB k u) l1
  have i0:=ih (k+1) (m ^^^ Zat (B k u) (Zat t (zN i))) (Zat t (zN i)) (by omega) (ZbW hm l2) l1 he
  have sl:=Zc2 B u u
  have sv:(ZcI B u u).getD k 0=((B k u:Nat):Int):=by
   unfold ZcI
   rw[List.getD_eq_getElem?_getD,List.getElem?_map,List.getElem?_range hk];rfl
  have x1:gM ((t:Nat):Int) ((zN i:Nat):Int)=((Zat t (zN i):Nat):Int):=rfl
  have x2:gM ((B k u:Nat):Int) ((Zat t (zN i):Nat):Int)=((Zat (B k u) (Zat t (zN i)):Nat):Int):=rfl
  have x3:=Zc1 (r:=m) (k:=Zat (B k u) (Zat t (zN i))) (by omega) (by omega)
  have b1:=Zbi ht
  have b2:=Zbi z16
  have b3:=Zbi (hB k u)
  have b4:=Zbi l1
  refine tgo hC ZaH ZgO ?_
  simp only[Zcz,Zbj,ZbP,Int.toNat_natCast,sv,x1,x2,x3]
  simp[-List.getD_eq_getElem?_getD,hk,sl,b1,b2,b3,b4,show(k:Int)<(u:Int) by omega]at i0⊢
  exact⟨by omega,i0⟩
theorem ZCH:∀(c i:Nat),i+c=15→Ev C (ZbK u rows (ZcI B u u) i (poX (cN B u) i)) (Zbq u rows (ZcI B u u) i (poX (cN B u) i)) (ZaZ 116 (.tup [.row 0 0, .bool (decide ((poX (cN B u) 15).length=u))]) (some ⟨3,1, .ints .i64 (poX (cN B u) 15)⟩)):=by
 intro c
 induction c with
 |zero=>
  intro i hc
  have:i=15:=by omega
  subst this
  refine tgo hC ZaH ZgG ?_
  simp[-List.getD_eq_getElem?_getD,ZdZ]
  omega
 |succ c ih=>
  intro i hc
  have i0:=ih (i+1) (by omega)
  rw[ZkB]at i0
  have sl:=Zc2 B u u
  have i1:=ZAv hC u hu rows hB i (by omega) (poX (cN B u) i) (by have:=Zr0 (cN B u) i;omega) _ _ i0 u 0 1 1 (by omega) (by omega) (by omega) (by rw[List.drop_zero])
  have e1:Zy2 (i:Int)=((Zbp (14-i):Nat):Int):=by
   unfold Zy2 gP
   rw[show ((14:Int)-(i:Int)).toNat=14-i by omega]
  have b1:=Zbi (ZbU (14-i))
  have e2:gI ((Zbp (14-i):Nat):Int)=((zN i:Nat):Int):=rfl
  refine tgo hC ZaH ZgG ?_
  simp only[ZdZ,e1,e2]
  simp[-List.getD_eq_getElem?_getD,b1,sl,show(i:Int)<15 by omega]at i1⊢
  exact⟨by omega,i1⟩
end
theorem Zsi(s:List Int)(u:Int)(h:s.all elB=true∧s.length≤6∧0≤u∧u≤s.length):Zah Try.prog 116 [.list (.ints .i64 s), .int .i64 u] (.tup [.list (.ints .i64 (ZiK s u.toNat)), .bool (poO s u.toNat)]) Zue:=by
 obtain⟨h1,h2,h3,h4⟩:=h
 obtain⟨U,rfl⟩:=Int.eq_ofNat_of_zero_le h3
 rw[Int.toNat_natCast]
 cases hc:poC s U with
 |none=>
  have e1:ZiK s U=[]:=by unfold ZiK;rw[hc]
  have e2:poO s U=false:=by unfold poO;rw[hc]
  rw[e1,e2]
  refine Zky (r:=.tup [.nils, .bool false]) (fr:=none) ?_ rfl (.tup ⟨.nil _ rfl, .same _ rfl rfl,trivial⟩)
  refine start (ZoC s U) fun C hC=>tgo hC ZaH Zu7 ?_
  have i6:=Zwm hC s ((s.length-U:Nat):Int) ((s.length:Nat):Int) ((s.length:Nat):Int) false (s.length-U) U (by omega) (by omega) (.tup [.nils, .bool false]) none (A:=poM s U) (refs:=List.range (s.length-U)) (rows:=pwM s U (s.length-U)) (ZnP h1 U) (Zwq _ _ _) (fun B rows hB hz=>by
   exfalso
   unfold poC poB at hc
   rw[hB]at hc
   simp only[fiZ_iff.2 hz,if_true]at hc
   cases hc) (fun _=>⟨rfl,rfl⟩)
  have i2:=ZvD hC s h1 h2 U (by omega) (by omega) _ _ i6 (s.length-U) 0 (by omega)
  simp[Zrs,pwM]at i2⊢
  exact i2
 |some c=>
  have e1:ZiK s U=poX c 15:=by unfold ZiK;rw[hc]
  have e2:poO s U=decide ((poX c 15).length=U):=by unfold poO;rw[hc]
  rw[e1,e2]
  refine Zky (r:=.tup [.row 0 0, .bool (decide ((poX c 15).length=U))]) (fr:=some ⟨3,1, .ints .i64 (poX c 15)⟩) ?_ rfl (.tup ⟨.row _ rfl rfl rfl, .same _ rfl rfl,trivial⟩)
  refine start (ZoC s U) fun C hC=>tgo hC ZaH Zu7 ?_
  have i6:=Zwm hC s ((s.length-U:Nat):Int) ((s.length:Nat):Int) ((s.length:Nat):Int) false (s.length-U) U (by omega) (by omega) (.tup [.row 0 0, .bool (decide ((poX c 15).length=U))]) (some ⟨3,1, .ints .i64 (poX c 15)⟩) (A:=poM s U) (refs:=List.range (s.length-U)) (rows:=pwM s U (s.length-U)) (ZnP h1 U) (Zwq _ _ _) (fun B rows hB hz=>by
   have hbe:=(Zey (u:=U) U 0 _ B (ZnP h1 U) (ZcA _ _) (by omega) (fun _=>Nat.zero_le _) hB).1
   unfold poC poB at hc
   rw[hB]at hc
   simp only[fiZ_iff.2 hz,if_true,Option.some.injEq]at hc
   subst hc
   simpa[poX]using ZCH hC U (by omega) rows hbe 15 0 (by omega)) (fun hno=>by
   exfalso
   unfold poC poB at hc
   cases hB:elA (s.length-U) U 0 (poM s U)with
   |none=>rw[hB]at hc;cases hc
   |some B=>
    rw[hB]at hc
    have:=hno B hB
    rw[←fiZ_iff]at this
    simp only[this,if_false,Bool.false_eq_true]at hc
    cases hc)
  have i2:=ZvD hC s h1 h2 U (by omega) (by omega) _ _ i6 (s.length-U) 0 (by omega)
  simp[Zrs,pwM]at i2⊢
  exact i2
def k116:Ctr:=⟨116,0,fun _ a=>match a with |[.list (.ints .i64 s), .int .i64 u]=>some (decide (s.all elB=true∧s.length≤6∧0≤u∧u≤s.length), .tup [.list (.ints .i64 (ZiK s u.toNat)), .bool (poO s u.toNat)],Zue) |_=>none⟩
theorem Zw2:k116.OK Try.prog:=fun pa args r fr h=>by
 simp only[k116]at h
 split at h
 ·simp only[Option.some.injEq,Prod.mk.injEq,decide_eq_true_eq]at h
  obtain⟨h0,rfl,rfl⟩:=h
  exact Zsi _ _ h0
 ·cases h
def Kj:List Ctr:=[k116]++Ki
theorem Zo0:Zax Try.prog Kj:=⟨Zw2,ZD1⟩
end Go.Proofs.Ytklbmkllepkjcaa
/- Paths of functions, printed by the explorer (Gx). No condition. -/
namespace Go.Proofs.Ytklbmkllepkjcaa
set_option maxRecDepth 100000
set_option linter.unusedVariables false
def ZAB(w:List Int)(h:Int):AFrame:={ fn:=90,N:=56,env:=[(0,AV.agg (.ints .i64 w)),(1,AV.int .i64 h)],todo:=[.code a90.code],defs:=[],rnd:=none,ret:=false,res:=[ARes.cell 4 true 15,ARes.tmp 5,ARes.tmp 6] }
def ZHg(w:List Int)(h:Int):List AFrame:=[(ZAB w h)]
theorem Zw5(w:List Int)(h:Int):Zay tab 90 [AV.agg (.ints .i64 w),AV.int .i64 h]=some (ZAB w h):=rfl
def Zhx(w:List Int)(h:Int)(A:Ar)(n0:Int)(l1:List Int)(n2:Int):List AFrame:=[{ fn:=90,N:=56,env:=[(1,AV.int .i64 h),(2,AV.ptr 90003 0 0 0),(4,AV.ptr 90005 0 0 0),(7,AV.row 90018 0),(19,AV.int .i64 n0),(20,AV.int .i64 n2)],todo:=.code (ACode.gh [] ZBs)::ZE9,defs:=[],rnd:=none,ret:=false,res:=[ARes.cell 4 true 15,ARes.tmp 5,ARes.tmp 6] }]
def ZfD(w:List Int)(h:Int)(A:Ar)(n0:Int)(l1:List Int)(n2:Int):Zaa:=[(90003,{ base:=0,blks:=[Blk.row 107 (A.len w) (Row.gen [.agg (.ints .i64 w)])] }),(90005,{ base:=0,blks:=[Blk.row 107 15 (Row.gen [.agg (.ints .i64 [0,0,0,0,0,0,0,0,0,0,0,0,0,0,0])])] }),(90018,{ base:=0,blks:=[Blk.row 3 1 (.ints .i64 l1)] })]
abbrev Zgs(w:List Int)(h:Int)(A:Ar)(n0:Int)(l1:List Int)(n2:Int):List AFrame×Zaa:=(Zhx w h A n0 l1 n2,ZfD w h A n0 l1 n2)
def ZhC(w:List Int)(A:Ar)(l3:List Int)(n4 n5:Int):List AFrame:=[{ fn:=90,N:=56,env:=[(2,AV.ptr 90003 0 0 0),(4,AV.ptr 90005 0 0 0),(11,AV.ptr 90012 0 0 0),(13,AV.int .i64 n4),(39,AV.int .i64 n5)],todo:=.code (ACode.gh [] ZCc)::ZFe,defs:=[],rnd:=none,ret:=false,res:=[ARes.cell 4 true 15,ARes.tmp 5,ARes.tmp 6] }]
def Zf0(w:List Int)(A:Ar)(l3:List Int)(n4 n5:Int):Zaa:=[(90003,{ base:=0,blks:=[Blk.row 107 (A.len w) (Row.gen [.agg (.ints .i64 w)])] }),(90005,{ base:=0,blks:=[Blk.row 107 15 (Row.gen [.agg (.ints .i64 [0,0,0,0,0,0,0,0,0,0,0,0,0,0,0])])] }),(90012,{ base:=0,blks:=[Blk.row 107 15 (Row.gen [.agg (.ints .i64 l3)])] })]
abbrev ZfO(w:List Int)(A:Ar)(l3:List Int)(n4 n5:Int):List AFrame×Zaa:=(ZhC w A l3 n4 n5,Zf0 w A l3 n4 n5)
def ZB1(A:Ar)(K:KT)(F:FT)(w:List Int)(h:Int):Prop:=rB [A.inR .i64 (A.add h 1),decide (okw (A.sub3 w 0 15)=true∧hfB h=true),Nat.ble 15 (A.len w),Nat.blt 0 (A.len [0,0,0,0,0,0,0,0,0,0,0,0,0,0,0]),Nat.blt 0 (A.len w)] (K (Zgs (w) (h) (A) (A.add h 1) (syL (A.sub3 w 0 15) (Nat.mul 2 (Int.toNat h))) (0)))
theorem ZFD{A:Ar}{K:KT}{F:FT}{M:MT}{w:List Int}{h:Int} :Zao A tab Kj 90 K F M (.run 24 (.hd)) (ZHg w h) []=ZB1 A K F w h:=by kernel_rfl
def ZcO(A:Ar)(K:KT)(F:FT)(w:List Int)(h n0:Int)(l1:List Int)(n2:Int):Prop:=bB (A.lt n2 n0) (rB [decide (List.all l1 elB=true∧List.length l1≤6∧0≤n2∧n2≤ ↑(List.length l1))] (bB (A.not (poO l1 (Int.toNat n2))) (rB [A.inR .i64 (A.add n2 1)] (K (Zgs (w) (h) (A) (n0) (l1) (A.add n2 1)))) (rB [Nat.beq (A.len (fiV h (A.sub3 w 0 15) (ZiK l1 (Int.toNat n2)))) 15,Nat.blt 0 (A.len [0,0,0,0,0,0,0,0,0,0,0,0,0,0,0]),decide (fiG (A.sub3 w 0 15) h (ZiK l1 (Int.toNat n2))=true),Nat.ble 15 (A.len w)] (bB (fiO h (A.sub3 w 0 15) (ZiK l1 (Int.toNat n2))) (K (ZfO (w) (A) (fiV h (A.sub3 w 0 15) (ZiK l1 (Int.toNat n2))) (0) (0))) (rB [A.inR .i64 (A.add n2 1)] (K (Zgs (w) (h) (A) (n0) (l1) (A.add n2 1)))))))) (rB [Nat.beq (A.len [0,0,0,0,0,0,0,0,0,0,0,0,0,0,0]) 15] (rB [Zae (Zae (Nat.ble 15 (A.len [0,0,0,0,0,0,0,0,0,0,0,0,0,0,0])) true) true] (F (AV.tup [AV.agg (.ints .i64 (A.sub3 [0,0,0,0,0,0,0,0,0,0,0,0,0,0,0] 0 15)),AV.int .i64 0,AV.bool false]) (none))))
theorem ZjU{A:Ar}{K:KT}{F:FT}{M:MT}{w:List Int}{h n0:Int}{l1:List Int}{n2:Int} :Zao A tab Kj 90 K F M (.run 6 (.tf (.run 26 (.tf (.run 7 (.hd)) (.run 19 (.tf (.run 12 (.hd)) (.run 8 (.hd)))))) (.run 9 (.fn)))) (Zhx w h A n0 l1 n2) (ZfD w h A n0 l1 n2)=ZcO A K F w h n0 l1 n2:=by kernel_rfl
def Zd2(A:Ar)(K:KT)(F:FT)(w l3:List Int)(n4 n5:Int):Prop:=bB (A.lt n5 15) (rB [Nat.blt (0+A.nat n5) (A.len l3),Zae (A.le 0 n5) (A.lt n5 (A.int 15)),Nat.blt (0+A.nat n5) (A.len w),Zae (A.le 0 n5) (A.lt n5 (A.int 15))] (bB (A.not (A.eq (A.nth w (0+A.nat n5)) (A.nth l3 (0+A.nat n5)))) (rB [A.inR .i64 (A.add n5 1),A.inR .i64 (A.add n4 1)] (K (ZfO (w) (A) (l3) (A.add n4 1) (A.add n5 1)))) (rB [A.inR .i64 (A.add n5 1)] (K (ZfO (w) (A) (l3) (n4) (A.add n5 1)))))) (rB [Nat.beq (A.len (A.sub3 l3 0 15)) 15,Nat.ble 15 (A.len l3)] (rB [Zae (Zae (Nat.ble 15 (A.len (A.sub3 l3 0 15))) true) true] (F (AV.tup [AV.agg (.ints .i64 (A.sub3 (A.sub3 l3 0 15) 0 15)),AV.int .i64 n4,AV.bool true]) (none))))
theorem ZiT{A:Ar}{K:KT}{F:FT}{M:MT}{w l3:List Int}{n4 n5:Int} :Zao A tab Kj 90 K F M (.run 6 (.tf (.run 11 (.tf (.run 12 (.hd)) (.run 8 (.hd)))) (.run 10 (.fn)))) (ZhC w A l3 n4 n5) (Zf0 w A l3 n4 n5)=Zd2 A K F w l3 n4 n5:=by kernel_rfl
end Go.Proofs.Ytklbmkllepkjcaa
/- Contracts as a list. No condition. -/
namespace Go.Proofs.Ytklbmkllepkjcaa
def deR(h:Int)(w:List Int):Nat→Nat→Option (List Int)
 |0,_=>none
 |k+1,u=>if poO (syL w (2*h.toNat)) u=true∧fiO h w (ZiK (syL w (2*h.toNat)) u)=true then some (fiV h w (ZiK (syL w (2*h.toNat)) u))else deR h w k (u+1)
def deA:Option (List Int)→List Int→AV
 |none,_=>.tup [.agg (.ints .i64 (List.replicate 15 0)), .int .i64 0, .bool false]
 |some x,w=>.tup [.agg (.ints .i64 x), .int .i64 (Zbe w x), .bool true]
@[irreducible] def deO (h:Int) (w:List Int):Option (List Int):=deR h w (h.toNat+1) 0
@[irreducible] def deV (h:Int) (w:List Int):List Int:=(deO h w).getD (List.replicate 15 0)
@[irreducible] def deN (h:Int) (w:List Int):Int:=match deO h w with
 |none=>0
 |some x=>Zbe w x
theorem ZAp(h:Int)(w:List Int):deA (deO h w) w=.tup [.agg (.ints .i64 (deV h w)), .int .i64 (deN h w), .bool (deO h w).isSome]:=by
 unfold deV deN
 cases deO h w<;>rfl
theorem Zvg{w:List Int}(h:Zbu w 0 15=0)(n:Nat):(syL w n).all elB=true:=by
 unfold syL
 refine List.all_eq_true.2 fun x hx=>?_
 obtain⟨i,_,rfl⟩:=List.mem_map.1 hx
 exact ZBt h (i+1)
theorem ZzI(c:List Nat):∀(n:Nat) (p:Int),n≤15→p<0→erP p (poX c n)=0∧∀x∈poX c n,x<n:=by
 have key:∀(l:List Int) (p:Int) (x:Int),erP p l=0→(∀y∈l,y<x)→p<x→0≤x∧x≤14→erP p (l++[x])=0:=by
  intro l
  induction l with
  |nil=>
   intro p x _ _ h1 h2
   rw[List.nil_append,erP,if_pos (show Zaq x 0 14=true from decide_eq_true h2),if_pos h1];rfl
  |cons y l ih=>
   intro p x h0 h1 h2 h3
   rw[erP]at h0
   split at h0
   ·rename_i hw
    split at h0
    ·rename_i hp
     rw[List.cons_append,erP,if_pos hw,if_pos hp]
     exact ih y x h0 (fun z hz=>h1 z (List.mem_cons_of_mem _ hz)) (h1 y List.mem_cons_self) h3
    ·cases h0
   ·cases h0
 intro n
 induction n with
 |zero=>intro p _ _;exact⟨by simp[poX,erP],by simp[poX]⟩
 |succ n ih=>
  intro p hn hp
  obtain⟨a,b⟩:=ih p (by omega) hp
  rw[ZkB]
  split
  ·refine⟨key _ _ _ a b (by omega) (by omega),fun x hx=>?_⟩
   rcases List.mem_append.1 hx with h |h
   ·have:=b x h;omega
   ·have:=List.mem_singleton.1 h;omega
  ·exact⟨a,fun x hx=>by have:=b x hx;omega⟩
theorem Zx2{h:Int}{w:List Int}{u:Nat}(hw:okw w=true)(hh:hfB h=true)(hu:u≤2*h.toNat)(ho:poO (syL w (2*h.toNat)) u=true):fiG w h (ZiK (syL w (2*h.toNat)) u)=true:=by
 unfold poO at ho
 unfold ZiK
 split at ho
 ·cases ho
 ·rename_i c hc
  have hl:=of_decide_eq_true ho
  have h2:=of_decide_eq_true hh
  unfold fiG
  rw[Bool.and_eq_true,Bool.and_eq_true]
  refine⟨hw,hh,decide_eq_true ?_⟩
  unfold erE
  rw[if_neg (by omega)]
  exact(ZzI c 15 (-1) (by omega) (by omega)).1
section
variable {C:Ctx}(hC:C.P=Try.prog)(w:List Int)(h:Int)(hw:okw w=true)(hh:hfB h=true)
include hC hw
theorem ZFg(x:List Int)(hx:x.length=15):∀(c i:Nat) (n:Int),i+c=15→0≤n→n≤i→n+Zbe (w.drop i) (x.drop i)=Zbe w x→Ev C (ZhC w std x n i) (Zf0 w std x n i) (ZaZ 90 (deA (some x) w) none):=by
 obtain⟨w1,w2⟩:=okw_iff.1 hw
 intro c
 induction c with
 |zero=>
  intro i n hc h0 hn he
  have:i=15:=by omega
  subst this
  rw[List.drop_of_length_le (by omega)]at he
  have he:n=Zbe w x:=by simpa[Zbe]using he
  subst he
  have e1:=Zby hx
  refine tgo hC Zo0 ZiT ?_
  simp only[Zd2,e1]
  simp[-List.getD_eq_getElem?_getD,hx,deA]
 |succ c ih=>
  intro i n hc h0 hn he
  rw[Zh1 (by omega),Zh1 (show i<x.length by omega),Zbe]at he
  refine tgo hC Zo0 ZiT ?_
  by_cases hq:w.getD i 0=x.getD i 0
  ·have i0:=ih (i+1) n (by omega) h0 (by omega) (by rw[if_pos hq]at he;omega)
   simp[-List.getD_eq_getElem?_getD,Zd2,hx,w1,hq,show(i:Int)<15 by omega,show i<15 by omega]at i0⊢
   exact⟨by omega,i0⟩
  ·have i0:=ih (i+1) (n+1) (by omega) (by omega) (by omega) (by rw[if_neg hq]at he;omega)
   simp[-List.getD_eq_getElem?_getD,Zd2,hx,w1,hq,show(i:Int)<15 by omega,show i<15 by omega]at i0⊢
   exact⟨by omega,i0⟩
theorem ZEf(hh:hfB h=true):∀(c u:Nat),(u:Int)+c=h+1→Ev C (Zhx w h std (h+1) (syL w (2*h.toNat)) u) (ZfD w h std (h+1) (syL w (2*h.toNat)) u) (ZaZ 90 (deA (deR h w c u) w) none):=by
 obtain⟨w1,w2⟩:=okw_iff.1 hw
 have h2:=of_decide_eq_true hh
 have e1:=Zby w1
 intro c
 induction c with
 |zero=>
  intro u hc
  refine tgo hC Zo0 ZjU ?_
  simp[-List.getD_eq_getElem?_getD,ZcO,show ¬(u:Int)<h+1 by omega,deR,deA]
 |succ c ih=>
  intro u hc
  have i0:=ih (u+1) (by omega)
  have sl:=ZeA w (2*h.toNat)
  have sg:(syL w (2*h.toNat)).all elB=true∧(syL w (2*h.toNat)).length≤6∧0≤(u:Int)∧(u:Int)≤((syL w (2*h.toNat)).length:Int):=⟨Zvg w2 _,by omega,by omega,by omega⟩
  have hlt:(u:Int)<h+1:=by omega
  refine tgo hC Zo0 ZjU ?_
  rw[deR]
  generalize hs:syL w (2*h.toNat)=s at*
  cases ho:poO s u with
  |false=>
   simp only[ZcO,Int.toNat_natCast,ho,e1]
   simp[-List.getD_eq_getElem?_getD,hlt]at i0⊢
   exact⟨by simpa using sg,by omega,i0⟩
  |true=>
   have hg:=Zx2 (u:=u) hw hh (by omega) (by rw[hs];exact ho)
   rw[hs]at hg
   have vl:=Zq0 (h:=h) (e:=ZiK s u) w1
   cases hf:fiO h w (ZiK s u)with
   |false=>
    simp only[ZcO,Int.toNat_natCast,ho,e1,hf]
    simp[-List.getD_eq_getElem?_getD,hlt,hg,vl,w1]at i0⊢
    exact⟨by simpa using sg,by omega,i0⟩
   |true=>
    have i1:=ZFg hC w hw (fiV h w (ZiK s u)) vl 15 0 0 (by omega) (by omega) (by omega) (by simp)
    simp only[ZcO,Int.toNat_natCast,ho,e1,hf]
    simp[-List.getD_eq_getElem?_getD,hlt,hg,vl,w1]at i1⊢
    exact⟨by simpa using sg,i1⟩
end
theorem Zs2(w:List Int)(h:Int)(hw:okw w=true)(hh:hfB h=true):Zah Try.prog 90 [.agg (.ints .i64 w), .int .i64 h] (.tup [.agg (.ints .i64 (deV h w)), .int .i64 (deN h w), .bool (deO h w).isSome]) none:=by
 obtain⟨w1,w2⟩:=okw_iff.1 hw
 have h2:=of_decide_eq_true hh
 rw[←ZAp]
 refine start (Zw5 w h) fun C hC=>tgo hC Zo0 ZFD ?_
 have i:=ZEf hC w h hw hh (h.toNat+1) 0 (by omega)
 have e1:=Zby w1
 unfold deO
 simp only[ZB1,e1]
 simp[-List.getD_eq_getElem?_getD,w1,hw,hh]at i⊢
 exact⟨by omega,i⟩
def k90:Ctr:=⟨90,0,fun _ a=>match a with |[.agg (.ints .i64 w), .int .i64 h]=>some (decide (okw w=true∧hfB h=true), .tup [.agg (.ints .i64 (deV h w)), .int .i64 (deN h w), .bool (deO h w).isSome],none) |_=>none⟩
theorem Zz6:k90.OK Try.prog:=fun pa args r fr h=>by
 simp only[k90]at h
 split at h
 ·simp only[Option.some.injEq,Prod.mk.injEq,decide_eq_true_eq]at h
  obtain⟨h0,rfl,rfl⟩:=h
  exact Zs2 _ _ h0.1 h0.2
 ·cases h
def Kk:List Ctr:=[k90]++Kj
theorem ZDd:Zax Try.prog Kk:=⟨Zz6,Zo0⟩
end Go.Proofs.Ytklbmkllepkjcaa
/- The bound of the sizes is a letter. No condition. -/
namespace Go.Proofs.Ytklbmkllepkjcaa
def ZaQ:Nat→Nat→List (List Int)
 |0,_=>[[]]
 |z+1,f=>(List.range (15-f)).flatMap fun i=>(ZaQ z (f+i+1)).map fun l=>((f+i:Nat):Int)::l
def ZpG(f z:Int):List AV:=(ZaQ z.toNat f.toNat).map fun l=>.list (.ints .i64 l)
attribute [irreducible] ZpG
def seB(N:Nat)(f z:Int):Bool:=decide (0≤f∧f≤15∧0≤z∧z<N)
def k93(N:Nat):Ctr:=⟨93,0,fun _ a=>match a with |[.int .i64 f, .int .i64 z]=>some (seB N f z, .list (.big (.ints .i64) (ZpG f z)),none) |_=>none⟩
def Kn(N:Nat):List Ctr:=k93 N::Kk
end Go.Proofs.Ytklbmkllepkjcaa
/- Paths of functions, printed by the explorer (Gx). No condition. -/
namespace Go.Proofs.Ytklbmkllepkjcaa
set_option maxRecDepth 100000
set_option linter.unusedVariables false
def ZBe(f z:Int):AFrame:={ fn:=93,N:=39,env:=[(0,AV.int .i64 f),(1,AV.int .i64 z)],todo:=[.code a93.code],defs:=[],rnd:=none,ret:=false,res:=[ARes.tmp 4] }
def ZIi(f z:Int):List AFrame:=[(ZBe f z)]
theorem Zra(f z:Int):Zay tab 93 [AV.int .i64 f,AV.int .i64 z]=some (ZBe f z):=rfl
def Zfh(z n0:Int)(l1:List Nat)(l2:List (List Int)):List AFrame:=[{ fn:=93,N:=39,env:=[(1,AV.int .i64 z),(5,AV.row 93038 0),(6,AV.int .i64 n0)],todo:=.code (ACode.gh [] Zzn)::ZEV,defs:=[],rnd:=none,ret:=false,res:=[ARes.tmp 4] }]
def Zd5(z n0:Int)(l1:List Nat)(l2:List (List Int)):Zaa:=[(93038,{ base:=0,blks:=[Blk.row 25 1 (Row.refs 1000093 l1)] }),(1000093,{ base:=0,blks:=[],sym:=Sym.ints 3 1 .i64 l2 })]
abbrev Zjr(z n0:Int)(l1:List Nat)(l2:List (List Int)):List AFrame×Zaa:=(Zfh z n0 l1 l2,Zd5 z n0 l1 l2)
def Zie(z n0:Int)(x3:List AV)(n4:Int)(l5:List Nat)(l6:List (List Int)):List AFrame:=[{ fn:=93,N:=39,env:=[(1,AV.int .i64 z),(5,AV.row 93038 0),(6,AV.int .i64 n0),(7,AV.list (Row.big (.ints .i64) x3)),(8,AV.int .i64 n4)],todo:=.code (ACode.gh [] ZBI)::ZD5,defs:=[],rnd:=none,ret:=false,res:=[ARes.tmp 4] }]
def ZfK(z n0:Int)(x3:List AV)(n4:Int)(l5:List Nat)(l6:List (List Int)):Zaa:=[(93038,{ base:=0,blks:=[Blk.row 25 1 (Row.refs 1000093 l5)] }),(1000093,{ base:=0,blks:=[],sym:=Sym.ints 3 1 .i64 l6 })]
abbrev Zi8(z n0:Int)(x3:List AV)(n4:Int)(l5:List Nat)(l6:List (List Int)):List AFrame×Zaa:=(Zie z n0 x3 n4 l5 l6,ZfK z n0 x3 n4 l5 l6)
def ZwU(A:Ar)(K:KT)(F:FT)(f z:Int):Prop:=bB (A.eq z 0) (rB [List.all [AV.nils] fun x=>AV.bx x&&Nat.beq (Zaf A x) 1] (F (AV.row 0 0) (some { e:=25,sz:=1,r:=Row.gen [AV.nils] }))) (K (Zjr (z) (f) ([]) ([])))
theorem ZAx{N:Nat}{A:Ar}{K:KT}{F:FT}{M:MT}{f z:Int} :Zao A tab (Kn N) 93 K F M (.run 11 (.tf (.run 6 (.fn)) (.run 15 (.hd)))) (ZIi f z) []=ZwU A K F f z:=by kernel_rfl
def Zgq(N:Nat)(A:Ar)(K:KT)(F:FT)(z n0:Int)(l1:List Nat)(l2:List (List Int)):Prop:=bB (A.lt n0 15) (rB [seB N (A.add n0 1) (A.sub z 1),A.inR .i64 (A.sub z 1),A.inR .i64 (A.add n0 1)] (K (Zi8 (z) (n0) (ZpG (A.add n0 1) (A.sub z 1)) (0) (l1) (l2)))) (F (AV.list (Row.gen (List.map (fun j=>AV.list (.ints .i64 (List.getD l2 j []))) l1))) (none))
theorem ZjW{N:Nat}{A:Ar}{K:KT}{F:FT}{M:MT}{z n0:Int}{l1:List Nat}{l2:List (List Int)} :Zao A tab (Kn N) 93 K F M (.run 7 (.tf (.run 19 (.hd)) (.run 7 (.fn)))) (Zfh z n0 l1 l2) (Zd5 z n0 l1 l2)=Zgq N A K F z n0 l1 l2:=by kernel_rfl
def ZfL(A:Ar)(K:KT)(F:FT)(z n0:Int)(x3:List AV)(n4:Int)(l5:List Nat)(l6:List (List Int)):Prop:=bB (A.lt n4 (A.int (A.lenA x3))) (rB [A.inR .i64 (A.add n4 1),Nat.ble (A.lenF l5+A.lenF [0+List.length (List.map (fun l=>Blk.row 3 1 (.ints .i64 l)) l6)]) 4294967296,List.all [AV.row 1000093 (0+List.length (List.map (fun l=>Blk.row 3 1 (.ints .i64 l)) l6))] fun x=>AV.bx x&&Nat.beq (Zaf A x) 1,Nat.ble (A.len [n0]+A.len (AV.toIs (A.nthA x3 (A.nat n4)))) 4294967296,Zae (Zae (A.le 0 n4) (Nat.blt (A.nat n4) (A.lenA x3))) true,List.all [AV.int .i64 n0] fun x=>AV.bx x&&Nat.beq (Zaf A x) 1] (K (Zi8 (z) (n0) (x3) (A.add n4 1) (A.appF l5 [0+List.length (List.map (fun l=>Blk.row 3 1 (.ints .i64 l)) l6)]) (List.append l6 [A.app [n0] (AV.toIs (A.nthA x3 (A.nat n4)))])))) (rB [A.inR .i64 (A.add n0 1)] (K (Zjr (z) (A.add n0 1) (l5) (l6))))
theorem Zjx{N:Nat}{A:Ar}{K:KT}{F:FT}{M:MT}{z n0:Int}{x3:List AV}{n4:Int}{l5:List Nat}{l6:List (List Int)} :Zao A tab (Kn N) 93 K F M (.run 9 (.tf (.run 24 (.hd)) (.run 9 (.hd)))) (Zie z n0 x3 n4 l5 l6) (ZfK z n0 x3 n4 l5 l6)=ZfL A K F z n0 x3 n4 l5 l6:=by kernel_rfl
end Go.Proofs.Ytklbmkllepkjcaa
/- All sets of positions. No condition. -/
namespace Go.Proofs.Ytklbmkllepkjcaa
theorem ZuY(L:List (List Int)):((List.range L.length).map fun j=>AV.list (.ints .i64 (L.getD j [])))=L.map fun l=>AV.list (.ints .i64 l):=by
 apply List.ext_getElem?
 intro i
 rw[List.getElem?_map,List.getElem?_map]
 by_cases hi:i<L.length
 ·rw[List.getElem?_range hi,List.getElem?_eq_getElem hi,Option.map_some,Option.map_some,List.getD_eq_getElem?_getD,List.getElem?_eq_getElem hi];rfl
 ·rw[List.getElem?_eq_none (by simp;omega),List.getElem?_eq_none (by omega)];rfl
def ZlY(Z f n:Nat):List (List Int):=(List.range n).flatMap fun i=>(ZaQ Z (f+i+1)).map fun l=>((f+i:Nat):Int)::l
theorem Zhv(Z f n:Nat):ZlY Z f (n+1)=ZlY Z f n++(ZaQ Z (f+n+1)).map fun l=>((f+n:Nat):Int)::l:=by
 unfold ZlY
 rw[List.range_succ,List.flatMap_append];simp
theorem ZtA(f z:Int):(ZpG f z).length=(ZaQ z.toNat f.toNat).length:=by unfold ZpG;simp
theorem Ztp(f z:Int)(k:Nat):((ZpG f z).getD k .top).toIs=(ZaQ z.toNat f.toNat).getD k []:=by
 unfold ZpG
 rw[List.getD_eq_getElem?_getD,List.getElem?_map,List.getD_eq_getElem?_getD]
 by_cases hk:k<(ZaQ z.toNat f.toNat).length
 ·rw[List.getElem?_eq_getElem hk];rfl
 ·rw[List.getElem?_eq_none (by omega)];rfl
theorem Zmj:∀(Z f:Nat),(ZaQ Z f).length≤15^Z∧∀l∈ZaQ Z f,l.length=Z
 |0,_=>by simp[ZaQ]
 |Z+1,f=>by
  have key:∀n,n≤15→(ZlY Z f n).length≤n*15^Z∧∀l∈ZlY Z f n,l.length=Z+1:=by
   intro n
   induction n with
   |zero=>intro _;simp[ZlY]
   |succ n ih=>
    intro hn
    obtain⟨a,b⟩:=ih (by omega)
    obtain⟨c,d⟩:=Zmj Z (f+n+1)
    rw[Zhv]
    refine⟨by rw[List.length_append,List.length_map,Nat.add_mul];omega,fun l hl=>?_⟩
    rcases List.mem_append.1 hl with h |h
    ·exact b l h
    ·obtain⟨y,hy,rfl⟩:=List.mem_map.1 h
     rw[List.length_cons,d y hy]
  obtain⟨a,b⟩:=key (15-f) (by omega)
  have e:ZaQ (Z+1) f=ZlY Z f (15-f):=rfl
  rw[e]
  refine⟨Nat.le_trans a ?_,b⟩
  rw[Nat.pow_succ,Nat.mul_comm]
  exact Nat.mul_le_mul_left _ (by omega)
section
variable {C:Ctx}(hC:C.P=Try.prog)(N:Nat)(hK:Zax Try.prog (Kn N))
include hC hK
theorem ZFd(Z i:Nat)(hZ:Z≤2)(hi:i<15)(L:List (List Int))(hL:L.length≤100000)(r:AV)
 (hn:Ev C (Zfh ((Z+1:Nat):Int) ((i+1:Nat):Int) (List.range (L++(ZaQ Z (i+1)).map fun l=>((i:Nat):Int)::l).length) (L++(ZaQ Z (i+1)).map fun l=>((i:Nat):Int)::l)) (Zd5 ((Z+1:Nat):Int) ((i+1:Nat):Int) (List.range (L++(ZaQ Z (i+1)).map fun l=>((i:Nat):Int)::l).length) (L++(ZaQ Z (i+1)).map fun l=>((i:Nat):Int)::l)) (ZaZ 93 r none)):
 ∀(c k:Nat),k+c=(ZaQ Z (i+1)).length→Ev C (Zie ((Z+1:Nat):Int) i (ZpG ((i:Int)+1) (Z:Int)) k (List.range (L++((ZaQ Z (i+1)).take k).map fun l=>((i:Nat):Int)::l).length) (L++((ZaQ Z (i+1)).take k).map fun l=>((i:Nat):Int)::l)) (ZfK ((Z+1:Nat):Int) i (ZpG ((i:Int)+1) (Z:Int)) k (List.range (L++((ZaQ Z (i+1)).take k).map fun l=>((i:Nat):Int)::l).length) (L++((ZaQ Z (i+1)).take k).map fun l=>((i:Nat):Int)::l)) (ZaZ 93 r none):=by
 have sv:=ZtA ((i:Int)+1) (Z:Int)
 rw[Int.toNat_natCast,show((i:Int)+1).toNat=i+1 by omega]at sv
 obtain⟨s1,s2⟩:=Zmj Z (i+1)
 have hp:15^Z≤15^2:=Nat.pow_le_pow_right (by omega) hZ
 intro c
 induction c with
 |zero=>
  intro k hk
  refine tgo hC hK Zjx ?_
  rw[List.take_of_length_le (by omega)]
  generalize (L++(ZaQ Z (i+1)).map fun l=>((i:Nat):Int)::l)=M at hn⊢
  simp[-List.getD_eq_getElem?_getD,ZfL,sv,show ¬(k:Int)<((ZaQ Z (i+1)).length:Int) by omega]at hn⊢
  exact⟨by omega,hn⟩
 |succ c ih=>
  intro k hk
  have hlt:k<(ZaQ Z (i+1)).length:=by omega
  have i0:=ih (k+1) (by omega)
  have g:=Ztp ((i:Int)+1) (Z:Int) k
  rw[Int.toNat_natCast,show((i:Int)+1).toNat=i+1 by omega]at g
  have tl:(ZaQ Z (i+1)).take (k+1)=(ZaQ Z (i+1)).take k++[(ZaQ Z (i+1)).getD k []]:=ZqU hlt
  rw[tl,List.map_append,←List.append_assoc]at i0
  have ml:(L++((ZaQ Z (i+1)).take k).map fun l=>((i:Nat):Int)::l).length≤200000:=by
   rw[List.length_append,List.length_map,List.length_take];omega
  have gl:((ZaQ Z (i+1)).getD k []).length=Z:=s2 _ (ZbA hlt)
  generalize (L++((ZaQ Z (i+1)).take k).map fun l=>((i:Nat):Int)::l)=M at i0 ml⊢
  rw[List.length_append,List.map_cons,List.map_nil,List.length_singleton,List.range_succ]at i0
  refine tgo hC hK Zjx ?_
  simp only[ZfL,ZCP,Zbj,Int.toNat_natCast,g]
  simp[-List.getD_eq_getElem?_getD,sv,hlt,gl,AV.bx,Zaf,show(k:Int)<((ZaQ Z (i+1)).length:Int) by omega]at i0⊢
  exact⟨by omega,i0⟩
theorem ZFj(Z f:Nat)(hZ:Z≤2)(hN:Z<N):∀(c n:Nat),f+n+c=15→Ev C (Zfh ((Z+1:Nat):Int) ((f+n:Nat):Int) (List.range (ZlY Z f n).length) (ZlY Z f n)) (Zd5 ((Z+1:Nat):Int) ((f+n:Nat):Int) (List.range (ZlY Z f n).length) (ZlY Z f n)) (ZaZ 93 (.list (.gen ((ZaQ (Z+1) f).map fun l=>.list (.ints .i64 l)))) none):=by
 intro c
 induction c with
 |zero=>
  intro n hc
  refine tgo hC hK ZjW ?_
  have e:ZaQ (Z+1) f=ZlY Z f n:=by rw[show n=15-f by omega];rfl
  rw[e]
  simp only[Zgq,ZuY]
  simp[-List.getD_eq_getElem?_getD,show ¬((f:Int)+(n:Int))<15 by omega]
 |succ c ih=>
  intro n hc
  have i0:=ih (n+1) (by omega)
  rw[Zhv,show f+(n+1)=f+n+1 by omega]at i0
  have pl:(ZlY Z f n).length≤100000:=by
   have key:∀n,n≤15→(ZlY Z f n).length≤n*225:=by
    intro n
    induction n with
    |zero=>intro _;simp[ZlY]
    |succ n ih2=>
     intro hn
     have a:=ih2 (by omega)
     obtain⟨c,_⟩:=Zmj Z (f+n+1)
     have hp:15^Z≤15^2:=Nat.pow_le_pow_right (by omega) hZ
     rw[Zhv,List.length_append,List.length_map,Nat.add_mul];omega
   have:=key n (by omega)
   omega
  have i1:=ZFd hC N hK Z (f+n) hZ (by omega) (ZlY Z f n) pl _ i0 (ZaQ Z (f+n+1)).length 0 (by omega)
  have sb:seB N (((f+n:Nat):Int)+1) (((Z+1:Nat):Int)-1)=true:=decide_eq_true (by omega)
  have z1:((Z+1:Nat):Int)-1=((Z:Nat):Int):=by omega
  have hlt:((f+n:Nat):Int)<15:=by omega
  rw[z1]at sb
  refine tgo hC hK ZjW ?_
  simp only[Zgq,Zmc,ZtS,z1,sb,ZFX,decide_eq_true hlt,ZAO,ZBf,if_true]
  simp only[List.take_zero,List.map_nil,List.append_nil]at i1
  exact⟨by simp;omega,i1⟩
end
theorem ZrO{f:FuncId}{args:List AV}{e sz:Nat}{r r':Row}(h:Zah Try.prog f args (.row 0 0) (some ⟨e,sz+1,r⟩))(hp:r.pure=true)(hs:r.solid=true)(hw:∀ {w:World} {ok:Nat→Prop} {hh:Zaa} {L:Lay} {x:Value},Rel w ok hh L (.list r) x→Rel w ok hh L (.list r') x):Zah Try.prog f args (.list r') none:=by
 intro w okA L vs hargs hok hG
 refine(h w okA L vs hargs hok hG).mono ?_
 rintro e' w' ⟨x,L',rfl,hb,hpo⟩
 refine⟨x,L',rfl,hb,?_⟩
 obtain⟨H,hr⟩:HRel (Ctx.of Try.prog w okA []) (Zan (some ⟨e,sz+1,r⟩)) L' w'∧Zas (Ctx.of Try.prog w okA []) (Zan (some ⟨e,sz+1,r⟩)) L' w' (.row 0 0) x:=hpo
 show HRel (Ctx.of Try.prog w okA []) (Zan none) L' w'∧Zas (Ctx.of Try.prog w okA []) (Zan none) L' w' (.list r') x
 refine⟨H.nil,?_⟩
 have q:=Zfd H (Frz1.row _ rfl hp hs) hr
 exact hw (q.okmono (fun g _ ho=>ho.elim (fun y=>y.2.elim) (fun y=>.inr y)))
theorem ZxM{w:World}{ok:Nat→Prop}{hh:Zaa}{L:Lay}{x:Value}(hr:Rel w ok hh L (.list (.gen [.nils])) x):Rel w ok hh L (.list (.big (.ints .i64) [.list (.ints .i64 [])])) x:=by
 cases hr with
 |nil _ a c h0=>cases h0
 |list _ xs hx ad n cap sz cs hb hok hn hcap hsz hl h1 hc hp hrr=>
  subst hx
  refine .list _ [.list (.ints .i64 [])] rfl ad n cap sz cs hb hok hn hcap (fun z hz=>?_) (hl.trans rfl) h1 hc rfl (fun j u v hu hv=>?_)
  ·have:=hsz .nils (by simp[Row.elems])
   have hz:z=.list (.ints .i64 []):=by simpa using hz
   subst hz;exact this
  ·cases j with
   |zero=>
    have hq:=hrr 0 .nils v rfl hv
    have hu:AV.list (.ints .i64 [])=u:=by simpa[Zad,AV.flat]using hu
    subst hu
    cases hq with
    |nils=>exact .nil _ none 0 rfl
   |succ j=>simp[Zad,AV.flat]at hu
theorem ZrR(f:Int):ZpG f 0=[.list (.ints .i64 [])]:=by unfold ZpG;rfl
theorem ZtC(N:Nat)(hK:Zax Try.prog (Kn N))(f z:Int)(h:seB (N+1) f z=true)(h3:z≤3):Zah Try.prog 93 [.int .i64 f, .int .i64 z] (.list (.big (.ints .i64) (ZpG f z))) none:=by
 have h:=of_decide_eq_true h
 by_cases hz:z=0
 ·subst hz
  rw[ZrR]
  refine ZrO (r:=.gen [.nils]) (e:=25) (sz:=0) ?_ rfl rfl ZxM
  exact start (Zra f 0) fun C hC=>tgo hC hK ZAx (by simp[ZwU,AV.bx,Zaf])
 ·obtain⟨Z,hZ⟩:∃Z:Nat,z=((Z+1:Nat):Int):=⟨z.toNat-1,by omega⟩
  obtain⟨F,rfl⟩:=Int.eq_ofNat_of_zero_le h.1
  subst hZ
  have q:Zah Try.prog 93 [.int .i64 (F:Int), .int .i64 ((Z+1:Nat):Int)] (.list (.gen ((ZaQ (Z+1) F).map fun l=>.list (.ints .i64 l)))) none:=by
   refine start (Zra _ _) fun C hC=>tgo hC hK ZAx ?_
   have i:=ZFj hC N hK Z F (by omega) (by omega) (15-F) 0 (by omega)
   simp[ZwU,ZlY,show ¬((Z:Int)+1=0) by omega]at i⊢
   exact i
  refine Zp6 q ?_
  unfold ZpG
  rw[Int.toNat_natCast,Int.toNat_natCast]
  simp only[Row.elems,List.map_map]
  exact List.map_congr_left fun _ _=>rfl
theorem Zvu:∀N:Nat,N≤4→(k93 N).OK Try.prog
 |0,_=>fun pa args r fr h=>by
  simp only[k93]at h
  split at h
  ·simp only[Option.some.injEq,Prod.mk.injEq]at h
   obtain⟨a,_⟩:=h
   have:=of_decide_eq_true a
   omega
  ·cases h
 |N+1,hN=>fun pa args r fr h=>by
  have ih:=Zvu N (by omega)
  simp only[k93]at h
  split at h
  ·simp only[Option.some.injEq,Prod.mk.injEq]at h
   obtain⟨a,rfl,rfl⟩:=h
   have b:=of_decide_eq_true a
   exact ZtC N ⟨ih,ZDd⟩ _ _ a (by omega)
  ·cases h
def Kl:List Ctr:=k93 4::Kk
theorem ZEc:Zax Try.prog Kl:=⟨Zvu 4 (Nat.le_refl _),ZDd⟩
end Go.Proofs.Ytklbmkllepkjcaa
/- Contracts as a list. No condition. -/
namespace Go.Proofs.Ytklbmkllepkjcaa
theorem Zqs:∀(Z f:Nat) (l:List Int),l∈ZaQ Z f→∀p:Int,p<f→erP p l=0
 |0,_,l,hl,_,_=>by
  have:l=[]:=by simpa[ZaQ]using hl
  subst this;rfl
 |Z+1,f,l,hl,p,hp=>by
  unfold ZaQ at hl
  obtain⟨i,hi,hl⟩:=List.mem_flatMap.1 hl
  obtain⟨y,hy,rfl⟩:=List.mem_map.1 hl
  have hi:=List.mem_range.1 hi
  rw[erP,if_pos (show Zaq ((f+i:Nat):Int) 0 14=true from decide_eq_true (by omega)),if_pos (by omega)]
  exact Zqs Z (f+i+1) y hy _ (by omega)
section
variable {C:Ctx}(hC:C.P=Try.prog)(h:Int)(w:List Int)(hw:okw w=true)(hh:hfB h=true)
include hC hw hh
end
def Km:List Ctr:=Kl
theorem Zkz:Zax Try.prog Km:=ZEc
end Go.Proofs.Ytklbmkllepkjcaa
/- Paths of functions, printed by the explorer (Gx). No condition. -/
namespace Go.Proofs.Ytklbmkllepkjcaa
set_option maxRecDepth 100000
set_option linter.unusedVariables false
def ZF9(h:Int)(d c:List Int):AFrame:={ fn:=9,N:=197,env:=[(0,AV.int .i64 h),(1,AV.list (.ints .i64 d)),(2,AV.list (.ints .i64 c))],todo:=[.code a9.code],defs:=[],rnd:=none,ret:=false,res:=[ARes.tmp 6] }
def f9e(h:Int)(d c:List Int):List AFrame:=[(ZF9 h d c)]
theorem ZB9(h:Int)(d c:List Int):Zay tab 9 [AV.int .i64 h,AV.list (.ints .i64 d),AV.list (.ints .i64 c)]=some (ZF9 h d c):=rfl
def ZiE(h:Int)(c l0:List Int)(n1:Int)(l2 l3:List Int):List AFrame:=[{ fn:=9,N:=197,env:=[(0,AV.int .i64 h),(2,AV.list (.ints .i64 c)),(7,AV.aslc 20008 0 0 0 15),(9,AV.row 9094 0),(10,AV.row 9103 0),(11,AV.int .i64 n1)],todo:=.code (ACode.gh [] ZFG)::ZHR,defs:=[],rnd:=none,ret:=false,res:=[ARes.tmp 6] }]
def Zfi(h:Int)(c l0:List Int)(n1:Int)(l2 l3:List Int):Zaa:=[(9094,{ base:=0,blks:=[Blk.row 3 1 (.ints .i64 l2)] }),(9103,{ base:=0,blks:=[Blk.row 3 1 (.ints .i64 l3)] }),(20008,{ base:=0,blks:=[Blk.row 107 15 (Row.gen [.agg (.ints .i64 l0)])] })]
abbrev ZkN(h:Int)(c l0:List Int)(n1:Int)(l2 l3:List Int):List AFrame×Zaa:=(ZiE h c l0 n1 l2 l3,Zfi h c l0 n1 l2 l3)
def Zke(h:Int)(l0 l2 l3:List Int)(n4 n5:Int)(b6:Bool)(n7:Int)(b8:Bool)(n9 n10:Int)(b11:Bool)(n12 n13:Int):List AFrame:=[{ fn:=43,N:=62,env:=[(0,AV.int .i64 h),(1,AV.row 9185 0),(2,AV.row 9187 0),(9,AV.int .i64 n12),(30,AV.row 9187 0),(31,AV.int .i64 n4),(32,AV.int .i64 n13)],todo:=.code (ACode.gh [] Zx1)::ZCt,defs:=[],rnd:=none,ret:=false,res:=[ARes.tmp 6,ARes.tmp 7] },{ fn:=9,N:=197,env:=[(0,AV.int .i64 h),(7,AV.aslc 20008 0 0 0 15),(9,AV.row 9094 0),(10,AV.row 9103 0),(12,AV.nils),(13,AV.int .i64 0),(14,AV.int .i64 n5),(122,AV.bool b6),(123,AV.int .i64 n7),(124,AV.bool b8),(176,AV.row 9103 0),(177,AV.int .i64 n9),(178,AV.int .i64 h),(179,AV.int .i64 n10),(180,AV.bool b11),(182,AV.int .i64 h),(183,AV.row 9094 0),(184,AV.row 9185 0),(185,AV.row 9103 0),(186,AV.row 9187 0)],todo:=[AItem.inReg [oN 187 (OpK.icall 43 [Opd.t 182,Opd.t 184,Opd.t 186]),mV 181 187,oN 188 (OpK.ext 0 (Opd.t 181)),oN 189 (OpK.ext 1 (Opd.t 181)),mV 18 188,mV 19 189], .code (ACode.gh [Ghost.keep [7,18,19]] (ACode.seq (ACode.reg none [mV 190 19,oN 191 (OpK.bin Go.BinOp.eql (Opd.t 190) (cI 0)),mV 192 191,{ d:=some 193,g:=some (192,true),k:=OpK.mov (Opd.t 18) },{ d:=some 194,g:=some (192,true),k:=OpK.mov (Opd.t 7) },{ d:=some 195,g:=some (192,true),k:=OpK.ncall true 0 17 [Opd.t 193,Opd.t 194] },oN 196 (OpK.pick (Opd.t 192) (Opd.t 195) (Opd.c (AV.bool false))),mV 6 196]) (ACode.gh [Ghost.keep [6]] ACode.ret)))],defs:=[],rnd:=none,ret:=false,res:=[ARes.tmp 6] }]
def ZhS(h:Int)(l0 l2 l3:List Int)(n4 n5:Int)(b6:Bool)(n7:Int)(b8:Bool)(n9 n10:Int)(b11:Bool)(n12 n13:Int):Zaa:=[(9094,{ base:=0,blks:=[Blk.row 3 1 (.ints .i64 l2)] }),(9103,{ base:=0,blks:=[Blk.row 3 1 (.ints .i64 l3)] }),(9185,{ base:=0,blks:=[Blk.row 3 1 (.ints .i64 l2)] }),(9187,{ base:=0,blks:=[Blk.row 3 1 (.ints .i64 l3)] }),(20008,{ base:=0,blks:=[Blk.row 107 15 (Row.gen [.agg (.ints .i64 l0)])] })]
abbrev Zix(h:Int)(l0 l2 l3:List Int)(n4 n5:Int)(b6:Bool)(n7:Int)(b8:Bool)(n9 n10:Int)(b11:Bool)(n12 n13:Int):List AFrame×Zaa:=(Zke h l0 l2 l3 n4 n5 b6 n7 b8 n9 n10 b11 n12 n13,ZhS h l0 l2 l3 n4 n5 b6 n7 b8 n9 n10 b11 n12 n13)
def Zms(h:Int)(l0 l2 l3 l14:List Int)(n15:Int):List AFrame:=[{ fn:=9,N:=197,env:=[(0,AV.int .i64 h),(7,AV.aslc 20008 0 0 0 15),(9,AV.row 9094 0),(10,AV.row 9103 0),(15,AV.list (.ints .i64 l14)),(17,AV.int .i64 n15)],todo:=.code (ACode.gh [] ZFZ)::ZH5,defs:=[],rnd:=none,ret:=false,res:=[ARes.tmp 6] }]
def ZkG(h:Int)(l0 l2 l3 l14:List Int)(n15:Int):Zaa:=[(9094,{ base:=0,blks:=[Blk.row 3 1 (.ints .i64 l2)] }),(9103,{ base:=0,blks:=[Blk.row 3 1 (.ints .i64 l3)] }),(20008,{ base:=0,blks:=[Blk.row 107 15 (Row.gen [.agg (.ints .i64 l0)])] })]
abbrev Zj8(h:Int)(l0 l2 l3 l14:List Int)(n15:Int):List AFrame×Zaa:=(Zms h l0 l2 l3 l14 n15,ZkG h l0 l2 l3 l14 n15)
def Zkd(h:Int)(l0 l2 l3 l14:List Int)(n15 n16 n17:Int)(b18:Bool)(n19 n20:Int)(b21:Bool)(n22 n23:Int):List AFrame:=[{ fn:=43,N:=62,env:=[(0,AV.int .i64 h),(1,AV.row 9185 0),(2,AV.row 9187 0),(9,AV.int .i64 n22),(30,AV.row 9187 0),(31,AV.int .i64 n16),(32,AV.int .i64 n23)],todo:=.code (ACode.gh [] Zx1)::ZCt,defs:=[],rnd:=none,ret:=false,res:=[ARes.tmp 6,ARes.tmp 7] },{ fn:=9,N:=197,env:=[(0,AV.int .i64 h),(7,AV.aslc 20008 0 0 0 15),(9,AV.row 9094 0),(10,AV.row 9103 0),(15,AV.list (.ints .i64 l14)),(17,AV.int .i64 n15),(165,AV.int .i64 n15),(166,AV.list (.ints .i64 l14)),(167,AV.int .i64 n17),(168,AV.bool b18),(176,AV.row 9103 0),(177,AV.int .i64 n19),(178,AV.int .i64 h),(179,AV.int .i64 n20),(180,AV.bool b21),(182,AV.int .i64 h),(183,AV.row 9094 0),(184,AV.row 9185 0),(185,AV.row 9103 0),(186,AV.row 9187 0)],todo:=[AItem.inReg [oN 187 (OpK.icall 43 [Opd.t 182,Opd.t 184,Opd.t 186]),mV 181 187,oN 188 (OpK.ext 0 (Opd.t 181)),oN 189 (OpK.ext 1 (Opd.t 181)),mV 18 188,mV 19 189], .code (ACode.gh [Ghost.keep [7,18,19]] (ACode.seq (ACode.reg none [mV 190 19,oN 191 (OpK.bin Go.BinOp.eql (Opd.t 190) (cI 0)),mV 192 191,{ d:=some 193,g:=some (192,true),k:=OpK.mov (Opd.t 18) },{ d:=some 194,g:=some (192,true),k:=OpK.mov (Opd.t 7) },{ d:=some 195,g:=some (192,true),k:=OpK.ncall true 0 17 [Opd.t 193,Opd.t 194] },oN 196 (OpK.pick (Opd.t 192) (Opd.t 195) (Opd.c (AV.bool false))),mV 6 196]) (ACode.gh [Ghost.keep [6]] ACode.ret)))],defs:=[],rnd:=none,ret:=false,res:=[ARes.tmp 6] }]
def ZhY(h:Int)(l0 l2 l3 l14:List Int)(n15 n16 n17:Int)(b18:Bool)(n19 n20:Int)(b21:Bool)(n22 n23:Int):Zaa:=[(9094,{ base:=0,blks:=[Blk.row 3 1 (.ints .i64 l2)] }),(9103,{ base:=0,blks:=[Blk.row 3 1 (.ints .i64 l3)] }),(9185,{ base:=0,blks:=[Blk.row 3 1 (.ints .i64 l2)] }),(9187,{ base:=0,blks:=[Blk.row 3 1 (.ints .i64 l3)] }),(20008,{ base:=0,blks:=[Blk.row 107 15 (Row.gen [.agg (.ints .i64 l0)])] })]
abbrev ZlU(h:Int)(l0 l2 l3 l14:List Int)(n15 n16 n17:Int)(b18:Bool)(n19 n20:Int)(b21:Bool)(n22 n23:Int):List AFrame×Zaa:=(Zkd h l0 l2 l3 l14 n15 n16 n17 b18 n19 n20 b21 n22 n23,ZhY h l0 l2 l3 l14 n15 n16 n17 b18 n19 n20 b21 n22 n23)
def ZxA(A:Ar)(K:KT)(F:FT)(h:Int)(d c:List Int):Prop:=rB [!A.not true] (bB (A.not (A.eq (hfE h) 0)) (F (AV.bool true) (none)) (rB [A.inR .i64 (A.mul 2 h)] (rB [A.inR .i64 (A.sub 15 (A.mul 2 h))] (bB (A.not (A.eq (A.int (A.len d)) (A.sub 15 (A.mul 2 h)))) (F (AV.bool true) (none)) (rB [decide (List.length d≤1000000)] (bB (A.not (A.eq (Zbu d 0 15) 0)) (F (AV.bool true) (none)) (bB (A.not (A.eq (A.int (A.len c)) 15)) (F (AV.bool true) (none)) (rB [decide (List.length c≤1000000)] (bB (A.not (A.eq (Zbu c 0 15) 0)) (F (AV.bool true) (none)) (rB [decide (List.length [hfE h,elE d (Go.IntKind.wrap .i64 (A.sub 15 (Go.IntKind.wrap .i64 (A.mul 2 h))))]≤1000000),List.all [AV.int .i64 (hfE h),AV.int .i64 (elE d (Go.IntKind.wrap .i64 (A.sub 15 (Go.IntKind.wrap .i64 (A.mul 2 h)))))] fun x=>AV.bx x&&Nat.beq (Zaf A x) 1,decide (List.length d≤1000000),decide (List.length d≤1000000)] (bB (A.not (A.eq (Zar [hfE h,elE d (Go.IntKind.wrap .i64 (A.sub 15 (Go.IntKind.wrap .i64 (A.mul 2 h))))]) 0)) (rB [A.not (A.eq (Zar [hfE h,elE d (Go.IntKind.wrap .i64 (A.sub 15 (Go.IntKind.wrap .i64 (A.mul 2 h))))]) 0)] (False)) (rB [Nat.beq (A.len (enW h d)) 15,Nat.blt 0 (A.len [0,0,0,0,0,0,0,0,0,0,0,0,0,0,0]),decide (daB h d=true)] (rB [!A.not (A.eq 0 0)] (rB [Zae (Nat.ble 15 (A.len (enW h d))) true] (bB (A.not (A.eq (A.int (A.len (A.sub3 (enW h d) 0 15))) 15)) (False) (rB [Zae (Zae (Zae (Nat.ble 15 (A.len (enW h d))) true) true) (decide (List.length (A.sub3 (enW h d) 0 15)≤1000000))] (bB (A.not (A.eq (Zbu (A.sub3 (enW h d) 0 15) 0 15) 0)) (False) (rB [Zae (A.le 0 (A.int (A.len d))) (Zae (Zae (Nat.ble 0 (A.nat (A.int (A.len d)))) (Nat.ble (A.nat (A.int (A.len d))) 15)) true)] (rB [Zae (Zae (Zae (Nat.ble (0+(A.nat (A.int (A.len d))-0)) (A.len (enW h d))) true) true) (decide (List.length (A.sub3 (enW h d) 0 (A.nat (A.int (A.len d))-0))≤1000000))] (bB (A.not (decide (A.sub3 (enW h d) 0 (A.nat (A.int (A.len d))-0)=d))) (False) (K (ZkN (h) (c) (enW h d) (0) ([]) ([])))))))))))))))))))))))
theorem ZGD{A:Ar}{K:KT}{F:FT}{M:MT}{h:Int}{d c:List Int} :Zao A tab Km 9 K F M (.run 10 (.fy (.run 8 (.tf (.ty (.ty (.ty (.ty (.ty (.ty (.run 1 (.ty (.ty (.ty (.ty (.run 1 (.ty (.ty (.ty (.ty (.run 1 (.ty (.ty (.ty (.ty (.run 2 (.ty (.run 5 (.fn))))))))))))))))))))))))) (.fy (.fy (.fy (.fy (.fy (.fy (.run 1 (.tf (.ty (.ty (.ty (.run 1 (.ty (.ty (.ty (.ty (.run 1 (.ty (.ty (.ty (.ty (.run 2 (.ty (.run 5 (.fn))))))))))))))))) (.fy (.fy (.fy (.run 1 (.tf (.ty (.ty (.ty (.run 1 (.ty (.ty (.ty (.ty (.run 2 (.ty (.run 5 (.fn)))))))))))) (.fy (.fy (.fy (.run 1 (.tf (.ty (.ty (.ty (.run 2 (.ty (.run 5 (.fn))))))) (.fy (.fy (.fy (.run 2 (.tf (.run 5 (.fn)) (.run 32 (.tf (.run 21 (.ty (.ty (.ty (.ty (.run 1 (.ty (.ty (.ty (.ty (.run 1 (.ty (.ty (.ty (.ty (.ty (.ty (.ty (.ty (.run 2 (.ty (.run 5 (.no))))))))))))))))))))))) (.run 30 (.fy (.fy (.fy (.fy (.run 1 (.tf (.ty (.ty (.ty (.run 1 (.ty (.ty (.ty (.ty (.ty (.ty (.ty (.ty (.run 2 (.ty (.run 5 (.no)))))))))))))))) (.fy (.fy (.fy (.run 1 (.tf (.ty (.ty (.ty (.ty (.ty (.ty (.ty (.run 2 (.ty (.run 5 (.no))))))))))) (.fy (.fy (.fy (.fy (.fy (.fy (.fy (.run 2 (.tf (.run 5 (.no)) (.run 15 (.hd)))))))))))))))))))))))))))))))))))))))))))))))))))) (f9e h d c) []=ZxA A K F h d c:=by kernel_rfl
def Zc0(A:Ar)(K:KT)(F:FT)(h:Int)(c l0:List Int)(n1:Int)(l2 l3:List Int):Prop:=rB [Zae (Nat.ble 15 (A.len l0)) true] (bB (A.lt n1 (A.int (A.len (A.sub3 l0 0 15)))) (rB [Zae (Zae (A.le 0 n1) (Nat.blt (A.nat n1) (A.len c))) true,Nat.ble (A.len l2+A.len [A.bits Go.BinOp.xor .i64 (A.nth l0 (0+A.nat n1)) (A.nth c (A.nat n1))]) 4294967296,List.all [AV.int .i64 (A.bits Go.BinOp.xor .i64 (A.nth l0 (0+A.nat n1)) (A.nth c (A.nat n1)))] fun x=>AV.bx x&&Nat.beq (Zaf A x) 1,Zae (Zae (A.le 0 n1) (Nat.blt (A.nat n1) (A.len c))) true,Nat.blt (0+A.nat n1) (A.len l0),Zae (A.le 0 n1) (Nat.blt (A.nat n1) 15)] (bB (A.not (A.eq (A.nth c (A.nat n1)) 0)) (rB [A.inR .i64 (A.add n1 1),Nat.ble (A.len l3+A.len [n1]) 4294967296,List.all [AV.int .i64 n1] fun x=>AV.bx x&&Nat.beq (Zaf A x) 1] (K (ZkN (h) (c) (l0) (A.add n1 1) (A.app l2 [A.bits Go.BinOp.xor .i64 (A.nth l0 (0+A.nat n1)) (A.nth c (A.nat n1))]) (A.app l3 [n1])))) (rB [A.inR .i64 (A.add n1 1)] (K (ZkN (h) (c) (l0) (A.add n1 1) (A.app l2 [A.bits Go.BinOp.xor .i64 (A.nth l0 (0+A.nat n1)) (A.nth c (A.nat n1))]) (l3)))))) (rB [decide (List.length [hfE h,elE l2 15]≤1000000),List.all [AV.int .i64 (hfE h),AV.int .i64 (elE l2 15)] fun x=>AV.bx x&&Nat.beq (Zaf A x) 1,decide (List.length l2≤1000000),decide (List.length l2≤1000000)] (bB (A.not (A.eq (Zar [hfE h,elE l2 15]) 0)) (rB [A.not (A.eq (Zar [hfE h,elE l2 15]) 0)] (bB (A.not (A.eq (Zar [hfE h,elE l2 15]) 27)) (False) (bB (A.le (A.int (A.len l3)) h) (False) (rB [!A.eq (Zar [hfE h,elE l2 15]) 0] (rB [A.inR .i64 (A.mul 2 h)] (bB (A.lt (A.mul 2 h) (A.int (A.len l3))) (F (AV.bool true) (none)) (rB [decide (List.length [hfE h,elE l2 15,Zaj (A.le (A.int (A.len l3)) (Go.IntKind.wrap .i64 (A.mul 2 h))) 8]≤1000000),List.all [AV.int .i64 (hfE h),AV.int .i64 (elE l2 15),AV.int .i64 (Zaj (A.le (A.int (A.len l3)) (Go.IntKind.wrap .i64 (A.mul 2 h))) 8)] fun x=>AV.bx x&&Nat.beq (Zaf A x) 1,decide (List.length l2≤1000000),decide (List.length l3≤1000000),decide (List.length l2≤1000000)] (bB (A.not (A.eq (Zar [hfE h,elE l2 15,Zaj (A.le (A.int (A.len l3)) (Go.IntKind.wrap .i64 (A.mul 2 h))) 8]) 0)) (rB [!A.eq (Zar [hfE h,elE l2 15,Zaj (A.le (A.int (A.len l3)) (Go.IntKind.wrap .i64 (A.mul 2 h))) 8]) 0] (False)) (K (Zix (h) (l0) (l2) (l3) (A.int (A.len l3)) (Zar [hfE h,elE l2 15]) (A.le (A.int (A.len l3)) h) (Zar [hfE h,elE l2 15]) (A.eq (Zar [hfE h,elE l2 15]) 0) (A.int (A.len l3)) (A.mul 2 h) (A.lt (A.mul 2 h) (A.int (A.len l3))) (-1) (0))))))))))) (rB [Nat.beq (A.len (deV h (A.sub3 l2 0 15))) 15,Nat.blt 0 (A.len [0,0,0,0,0,0,0,0,0,0,0,0,0,0,0]),decide (okw (A.sub3 l2 0 15)=true∧hfB h=true),Zae (Nat.ble 15 (A.len l2)) true,Nat.ble 15 (A.len l2)] (bB (A.not (Option.isSome (deO h (A.sub3 l2 0 15)))) (rB [A.not (A.eq 27 0)] (rB [!A.not (A.eq 27 27)] (bB (A.le (A.int (A.len l3)) h) (False) (rB [!A.eq 27 0] (rB [A.inR .i64 (A.mul 2 h)] (bB (A.lt (A.mul 2 h) (A.int (A.len l3))) (F (AV.bool true) (none)) (rB [decide (List.length [hfE h,elE l2 15,Zaj (A.le (A.int (A.len l3)) (Go.IntKind.wrap .i64 (A.mul 2 h))) 8]≤1000000),List.all [AV.int .i64 (hfE h),AV.int .i64 (elE l2 15),AV.int .i64 (Zaj (A.le (A.int (A.len l3)) (Go.IntKind.wrap .i64 (A.mul 2 h))) 8)] fun x=>AV.bx x&&Nat.beq (Zaf A x) 1,decide (List.length l2≤1000000),decide (List.length l3≤1000000),decide (List.length l2≤1000000)] (bB (A.not (A.eq (Zar [hfE h,elE l2 15,Zaj (A.le (A.int (A.len l3)) (Go.IntKind.wrap .i64 (A.mul 2 h))) 8]) 0)) (rB [!A.eq (Zar [hfE h,elE l2 15,Zaj (A.le (A.int (A.len l3)) (Go.IntKind.wrap .i64 (A.mul 2 h))) 8]) 0] (False)) (K (Zix (h) (l0) (l2) (l3) (A.int (A.len l3)) (27) (A.le (A.int (A.len l3)) h) (27) (A.eq 27 0) (A.int (A.len l3)) (A.mul 2 h) (A.lt (A.mul 2 h) (A.int (A.len l3))) (-1) (0))))))))))) (rB [!A.not (A.eq 0 0)] (rB [A.eq 0 0] (rB [decide (List.length (A.sub3 (deV h (A.sub3 l2 0 15)) 0 15)≤1000000),Zae (Zae (Zae (Nat.ble 15 (A.len (deV h (A.sub3 l2 0 15)))) true) true) (decide (List.length (A.sub3 (deV h (A.sub3 l2 0 15)) 0 15)≤1000000))] (bB (A.not (A.eq (Zpp h (A.sub3 (deV h (A.sub3 l2 0 15)) 0 15)) 0)) (False) (rB [Zae (Nat.ble 15 (A.len (deV h (A.sub3 l2 0 15)))) true] (rB [Zae (Nat.ble 15 (A.len l0)) true] (bB (A.not (A.eq (A.int (A.len (A.sub3 (deV h (A.sub3 l2 0 15)) 0 15))) (A.int (A.len (A.sub3 l0 0 15))))) (False) (rB [Zae (Zae (Zae (Nat.ble 15 (A.len (deV h (A.sub3 l2 0 15)))) true) true) (decide (List.length (A.sub3 (deV h (A.sub3 l2 0 15)) 0 15)≤1000000∧List.length (A.sub3 (deV h (A.sub3 l2 0 15)) 0 15)≤List.length l2))] (bB (A.not (A.eq (Zbe (A.sub3 (deV h (A.sub3 l2 0 15)) 0 15) l2) (deN h (A.sub3 l2 0 15)))) (False) (bB (A.lt h (deN h (A.sub3 l2 0 15))) (False) (bB (A.le (A.int (A.len l3)) h) (rB [Zae (Zae (Zae (Nat.ble 15 (A.len (deV h (A.sub3 l2 0 15)))) true) (Zae (Zae (Nat.ble 15 (A.len l0)) true) true)) (decide (List.length (A.sub3 (deV h (A.sub3 l2 0 15)) 0 15)≤1000000))] (bB (A.not (decide (A.sub3 (deV h (A.sub3 l2 0 15)) 0 15=A.sub3 l0 0 15))) (False) (K (Zj8 (h) (l0) (l2) (l3) (ZvF h (A.sub3 (deV h (A.sub3 l2 0 15)) 0 15)) (0))))) (K (Zj8 (h) (l0) (l2) (l3) (ZvF h (A.sub3 (deV h (A.sub3 l2 0 15)) 0 15)) (0)))))))))))))))))))
theorem Zn7{A:Ar}{K:KT}{F:FT}{M:MT}{h:Int}{c l0:List Int}{n1:Int}{l2 l3:List Int} :Zao A tab Km 9 K F M (.run 9 (.tf (.run 14 (.tf (.run 15 (.hd)) (.run 9 (.hd)))) (.run 30 (.tf (.run 24 (.ty (.ty (.ty (.tf (.ty (.ty (.ty (.alt [true,true] (.ty (.run 2 (.ty (.run 5 (.no))))) (.no))))) (.fy (.fy (.fy (.alt [true,false] (.ty (.run 2 (.tf (.run 5 (.no)) (.run 7 (.fy (.run 10 (.tf (.run 5 (.fn)) (.run 37 (.tf (.run 20 (.fy (.fy (.fy (.fy (.run 4 (.no))))))) (.run 15 (.hd))))))))))) (.no)))))))))) (.run 24 (.tf (.run 23 (.ty (.ty (.ty (.fy (.fy (.fy (.fy (.alt [true,false] (.ty (.run 2 (.tf (.run 5 (.no)) (.run 7 (.fy (.run 10 (.tf (.run 5 (.fn)) (.run 37 (.tf (.run 20 (.fy (.fy (.fy (.fy (.run 4 (.no))))))) (.run 15 (.hd))))))))))) (.no)))))))))) (.run 26 (.fy (.fy (.fy (.run 4 (.fy (.fy (.run 2 (.fy (.run 7 (.ty (.run 19 (.tf (.ty (.ty (.ty (.ty (.ty (.run 1 (.ty (.ty (.ty (.ty (.ty (.ty (.run 1 (.ty (.ty (.ty (.ty (.run 1 (.ty (.ty (.ty (.ty (.ty (.run 4 (.ty (.ty (.run 2 (.ty (.run 5 (.no)))))))))))))))))))))))))))))) (.fy (.fy (.fy (.fy (.fy (.run 1 (.tf (.ty (.ty (.ty (.ty (.ty (.run 1 (.ty (.ty (.ty (.ty (.run 1 (.ty (.ty (.ty (.ty (.ty (.run 4 (.ty (.ty (.run 2 (.ty (.run 5 (.no))))))))))))))))))))))) (.fy (.fy (.fy (.fy (.fy (.run 1 (.tf (.ty (.ty (.ty (.run 1 (.ty (.ty (.ty (.ty (.ty (.run 4 (.ty (.ty (.run 2 (.ty (.run 5 (.no)))))))))))))))) (.fy (.fy (.fy (.run 1 (.tf (.ty (.ty (.ty (.ty (.run 4 (.ty (.ty (.run 2 (.ty (.run 5 (.no))))))))))) (.fy (.fy (.fy (.fy (.tf (.ty (.ty (.ty (.alt [false,true] (.fy (.run 2 (.tf (.run 5 (.no)) (.run 8 (.hd))))) (.no))))) (.fy (.fy (.fy (.alt [false,false] (.fy (.run 2 (.fy (.run 8 (.hd))))) (.no)))))))))))))))))))))))))))))))))))))))))))))))) (ZiE h c l0 n1 l2 l3) (Zfi h c l0 n1 l2 l3)=Zc0 A K F h c l0 n1 l2 l3:=by kernel_rfl
def Zh4(A:Ar)(K:KT)(F:FT)(h:Int)(l0 l2 l3:List Int)(n4 n5:Int)(b6:Bool)(n7:Int)(b8:Bool)(n9 n10:Int)(b11:Bool)(n12 n13:Int):Prop:=bB (A.lt n13 n4) (rB [decide (List.length [Zaj (Zaq (A.nth l3 (A.nat n13)) 0 14) 6,Zaj (A.lt n12 (A.nth l3 (A.nat n13))) 9]≤1000000),List.all [AV.int .i64 (Zaj (Zaq (A.nth l3 (A.nat n13)) 0 14) 6),AV.int .i64 (Zaj (A.lt n12 (A.nth l3 (A.nat n13))) 9)] fun x=>AV.bx x&&Nat.beq (Zaf A x) 1,Zae (Nat.blt (A.nat n13) (A.len l3)) true,Zae (A.le 0 n13) (Nat.blt (A.nat n13) (A.len l3))] (bB (A.not (A.eq (Zar [Zaj (Zaq (A.nth l3 (A.nat n13)) 0 14) 6,Zaj (A.lt n12 (A.nth l3 (A.nat n13))) 9]) 0)) (rB [!A.eq (Zar [Zaj (Zaq (A.nth l3 (A.nat n13)) 0 14) 6,Zaj (A.lt n12 (A.nth l3 (A.nat n13))) 9]) 0] (False)) (rB [A.inR .i64 (A.add n13 1)] (K (Zix (h) (l0) (l2) (l3) (n4) (n5) (b6) (n7) (b8) (n9) (n10) (b11) (A.nth l3 (A.nat n13)) (A.add n13 1)))))) (rB [Nat.beq (A.len (fiV h (A.sub3 l2 0 15) l3)) 15,Nat.blt 0 (A.len [0,0,0,0,0,0,0,0,0,0,0,0,0,0,0]),decide (fiG (A.sub3 l2 0 15) h l3=true),Zae (Nat.ble 15 (A.len l2)) true,Nat.ble 15 (A.len l2)] (bB (A.not (fiO h (A.sub3 l2 0 15) l3)) (rB [!A.eq 27 0] (False)) (rB [A.eq 0 0] (rB [Zae (Zae (Zae (Nat.ble 15 (A.len (fiV h (A.sub3 l2 0 15) l3))) true) (Zae (Zae (Nat.ble 15 (A.len l0)) true) true)) (decide (List.length (A.sub3 (fiV h (A.sub3 l2 0 15) l3) 0 15)≤1000000))] (F (AV.bool (decide (A.sub3 (fiV h (A.sub3 l2 0 15) l3) 0 15=A.sub3 l0 0 15))) (none))))))
theorem ZlB{A:Ar}{K:KT}{F:FT}{M:MT}{h:Int}{l0 l2 l3:List Int}{n4 n5:Int}{b6:Bool}{n7:Int}{b8:Bool}{n9 n10:Int}{b11:Bool}{n12 n13:Int} :Zao A tab Km 9 K F M (.run 6 (.tf (.run 29 (.tf (.run 20 (.fy (.fy (.fy (.fy (.run 4 (.no))))))) (.run 12 (.hd)))) (.run 23 (.tf (.run 19 (.fy (.fy (.fy (.fy (.run 4 (.no))))))) (.run 21 (.ty (.ty (.ty (.ty (.run 4 (.fn))))))))))) (Zke h l0 l2 l3 n4 n5 b6 n7 b8 n9 n10 b11 n12 n13) (ZhS h l0 l2 l3 n4 n5 b6 n7 b8 n9 n10 b11 n12 n13)=Zh4 A K F h l0 l2 l3 n4 n5 b6 n7 b8 n9 n10 b11 n12 n13:=by kernel_rfl
def Zhk(A:Ar)(K:KT)(F:FT)(h:Int)(l0 l2 l3 l14:List Int)(n15:Int):Prop:=bB (A.lt n15 (A.int (A.len l14))) (rB [Zae (Zae (A.le 0 n15) (Nat.blt (A.nat n15) (A.len l14))) true] (bB (A.not (A.eq (A.nth l14 (A.nat n15)) 0)) (False) (rB [A.inR .i64 (A.add n15 1)] (K (Zj8 (h) (l0) (l2) (l3) (l14) (A.add n15 1)))))) (rB [A.inR .i64 (A.mul 2 h)] (bB (A.lt (A.mul 2 h) (A.int (A.len l3))) (F (AV.bool true) (none)) (rB [decide (List.length [hfE h,elE l2 15,Zaj (A.le (A.int (A.len l3)) (Go.IntKind.wrap .i64 (A.mul 2 h))) 8]≤1000000),List.all [AV.int .i64 (hfE h),AV.int .i64 (elE l2 15),AV.int .i64 (Zaj (A.le (A.int (A.len l3)) (Go.IntKind.wrap .i64 (A.mul 2 h))) 8)] fun x=>AV.bx x&&Nat.beq (Zaf A x) 1,decide (List.length l2≤1000000),decide (List.length l3≤1000000),decide (List.length l2≤1000000)] (bB (A.not (A.eq (Zar [hfE h,elE l2 15,Zaj (A.le (A.int (A.len l3)) (Go.IntKind.wrap .i64 (A.mul 2 h))) 8]) 0)) (rB [!A.eq (Zar [hfE h,elE l2 15,Zaj (A.le (A.int (A.len l3)) (Go.IntKind.wrap .i64 (A.mul 2 h))) 8]) 0] (False)) (K (ZlU (h) (l0) (l2) (l3) (l14) (n15) (A.int (A.len l3)) (A.int (A.len l14)) (A.lt n15 (A.int (A.len l14))) (A.int (A.len l3)) (A.mul 2 h) (A.lt (A.mul 2 h) (A.int (A.len l3))) (-1) (0)))))))
theorem Zoh{A:Ar}{K:KT}{F:FT}{M:MT}{h:Int}{l0 l2 l3 l14:List Int}{n15:Int} :Zao A tab Km 9 K F M (.run 9 (.tf (.run 11 (.tf (.run 5 (.no)) (.run 9 (.hd)))) (.run 10 (.tf (.run 5 (.fn)) (.run 37 (.tf (.run 20 (.fy (.fy (.fy (.fy (.run 4 (.no))))))) (.run 15 (.hd)))))))) (Zms h l0 l2 l3 l14 n15) (ZkG h l0 l2 l3 l14 n15)=Zhk A K F h l0 l2 l3 l14 n15:=by kernel_rfl
def Zih(A:Ar)(K:KT)(F:FT)(h:Int)(l0 l2 l3 l14:List Int)(n15 n16 n17:Int)(b18:Bool)(n19 n20:Int)(b21:Bool)(n22 n23:Int):Prop:=bB (A.lt n23 n16) (rB [decide (List.length [Zaj (Zaq (A.nth l3 (A.nat n23)) 0 14) 6,Zaj (A.lt n22 (A.nth l3 (A.nat n23))) 9]≤1000000),List.all [AV.int .i64 (Zaj (Zaq (A.nth l3 (A.nat n23)) 0 14) 6),AV.int .i64 (Zaj (A.lt n22 (A.nth l3 (A.nat n23))) 9)] fun x=>AV.bx x&&Nat.beq (Zaf A x) 1,Zae (Nat.blt (A.nat n23) (A.len l3)) true,Zae (A.le 0 n23) (Nat.blt (A.nat n23) (A.len l3))] (bB (A.not (A.eq (Zar [Zaj (Zaq (A.nth l3 (A.nat n23)) 0 14) 6,Zaj (A.lt n22 (A.nth l3 (A.nat n23))) 9]) 0)) (rB [!A.eq (Zar [Zaj (Zaq (A.nth l3 (A.nat n23)) 0 14) 6,Zaj (A.lt n22 (A.nth l3 (A.nat n23))) 9]) 0] (False)) (rB [A.inR .i64 (A.add n23 1)] (K (ZlU (h) (l0) (l2) (l3) (l14) (n15) (n16) (n17) (b18) (n19) (n20) (b21) (A.nth l3 (A.nat n23)) (A.add n23 1)))))) (rB [Nat.beq (A.len (fiV h (A.sub3 l2 0 15) l3)) 15,Nat.blt 0 (A.len [0,0,0,0,0,0,0,0,0,0,0,0,0,0,0]),decide (fiG (A.sub3 l2 0 15) h l3=true),Zae (Nat.ble 15 (A.len l2)) true,Nat.ble 15 (A.len l2)] (bB (A.not (fiO h (A.sub3 l2 0 15) l3)) (rB [!A.eq 27 0] (False)) (rB [A.eq 0 0] (rB [Zae (Zae (Zae (Nat.ble 15 (A.len (fiV h (A.sub3 l2 0 15) l3))) true) (Zae (Zae (Nat.ble 15 (A.len l0)) true) true)) (decide (List.length (A.sub3 (fiV h (A.sub3 l2 0 15) l3) 0 15)≤1000000))] (F (AV.bool (decide (A.sub3 (fiV h (A.sub3 l2 0 15) l3) 0 15=A.sub3 l0 0 15))) (none))))))
theorem Zlw{A:Ar}{K:KT}{F:FT}{M:MT}{h:Int}{l0 l2 l3 l14:List Int}{n15 n16 n17:Int}{b18:Bool}{n19 n20:Int}{b21:Bool}{n22 n23:Int} :Zao A tab Km 9 K F M (.run 6 (.tf (.run 29 (.tf (.run 20 (.fy (.fy (.fy (.fy (.run 4 (.no))))))) (.run 12 (.hd)))) (.run 23 (.tf (.run 19 (.fy (.fy (.fy (.fy (.run 4 (.no))))))) (.run 21 (.ty (.ty (.ty (.ty (.run 4 (.fn))))))))))) (Zkd h l0 l2 l3 l14 n15 n16 n17 b18 n19 n20 b21 n22 n23) (ZhY h l0 l2 l3 l14 n15 n16 n17 b18 n19 n20 b21 n22 n23)=Zih A K F h l0 l2 l3 l14 n15 n16 n17 b18 n19 n20 b21 n22 n23:=by kernel_rfl
end Go.Proofs.Ytklbmkllepkjcaa
/- Words of the code: what is filled, how far words are apart. No condition. -/
namespace Go.Proofs.Ytklbmkllepkjcaa
def Zl8(j:Nat)(w:Nat→Nat):Nat:=dt w (fun i=>Zbp (j*(14-i))) 15
theorem ZfV(j:Nat):El (fun i=>Zbp (j*(14-i))):=fun _=>ZbU _
def wfn(w:List Int)(i:Nat):Nat:=(w.getD i 0).toNat
theorem ZcC{w:List Int}(h:Zbu w 0 15=0):El (wfn w):=fun i=>by
 have:=of_decide_eq_true (ZiH h i)
 unfold wfn;omega
theorem Zrc(j:Nat){w:List Int}(hl:w.length=15):∀n,n≤15→dt (wfn w) (fun i=>Zbp (j*(14-i))) n ^^^ ZpO j n ((wdN w).drop n)=ZpO j 0 (wdN w)
 |0,_=>by rw[dt,List.drop_zero,Nat.zero_xor]
 |n+1,hn=>by
  rw[←Zrc j hl n (by omega),Zqr (show n<w.length by omega),ZpO,dt,Nat.xor_assoc];rfl
theorem Zhe{w:List Int}(hl:w.length=15)(j:Nat):syI w j=((Zl8 j (wfn w):Nat):Int):=by
 have h:=Zrc j hl 15 (Nat.le_refl _)
 rw[List.drop_of_length_le (by rw[Zr3];omega),ZpO,Nat.xor_zero]at h
 unfold syI Zl8;rw[h]
theorem ZpT{h:Int}{w:List Int}(hl:w.length=15):isW h w=true↔∀j,j<2*h.toNat→Zl8 (j+1) (wfn w)=0:=by
 unfold isW syL
 rw[List.all_eq_true]
 constructor
 ·intro a j hj
  have:=a (syI w (j+1)) (List.mem_map.2 ⟨j,List.mem_range.2 hj,rfl⟩)
  rw[decide_eq_true_eq,Zhe hl]at this
  omega
 ·intro a x hx
  obtain⟨j,hj,rfl⟩:=List.mem_map.1 hx
  rw[decide_eq_true_eq,Zhe hl,a j (List.mem_range.1 hj)];rfl
def upd(w:Nat→Nat)(p v:Nat):Nat→Nat:=fun i=>if i=p then v else w i
theorem ZpV{w g:Nat→Nat}{p v:Nat}(h0:w p=0)(hw:El w)(hg:El g)(hv:v<16):∀n,dt (upd w p v) g n=dt w g n ^^^ (if p<n then Zat v (g p)else 0)
 |0=>by simp[dt]
 |n+1=>by
  rw[dt,dt,ZpV h0 hw hg hv n]
  unfold upd
  by_cases hp:n=p
  ·subst hp
   rw[if_pos rfl,if_neg (Nat.lt_irrefl _),if_pos (by omega),h0,Zdn (hg n),Nat.xor_zero]
  ·rw[if_neg hp]
   by_cases hlt:p<n
   ·rw[if_pos hlt,if_pos (by omega),Nat.xor_assoc,Nat.xor_assoc,Nat.xor_comm (Zat v (g p))]
   ·rw[if_neg hlt,if_neg (by omega),Nat.xor_zero,Nat.xor_zero]
theorem Zol{a b g:Nat→Nat}(ha:El a)(hb:El b)(hg:El g):∀n,dt (fun i=>a i ^^^ b i) g n=dt a g n ^^^ dt b g n
 |0=>by simp[dt]
 |n+1=>by rw[dt,dt,dt,Zol ha hb hg n,ZcH (ha n) (hb n) (hg n),Zj1]
theorem ZlA:∀(g:Nat→Nat),El g→∀(qs:List Nat),(∀p∈qs,p<15)→qs.Nodup→∀(b:Nat→Nat),El b→(∀i,i<15→i∉qs→b i=0)→dt b g 15=dt (fun k=>b (qs.getD k 0)) (fun k=>g (qs.getD k 0)) qs.length:=by
 intro g hg qs
 induction qs with
 |nil=>
  intro _ _ b hb hz
  rw[List.length_nil,dt]
  exact ZjZ hg 15 (fun j hj=>hz j hj (by simp))
 |cons p qs ih=>
  intro h1 h2 b hb hz
  have hpq:p∉qs:=(List.nodup_cons.1 h2).1
  have hbe:El (upd b p 0):=fun i=>by unfold upd;split;decide;exact hb i
  have e:dt b g 15=dt (upd b p 0) g 15 ^^^ Zat (b p) (g p):=by
   have u:=ZpV (w:=upd b p 0) (g:=g) (p:=p) (v:=b p) (by simp[upd]) hbe hg (hb p) 15
   rw[if_pos (h1 p List.mem_cons_self)]at u
   rw[←u]
   refine ZaG _ (fun j _=>?_) (fun _ _=>rfl)
   unfold upd
   by_cases hj:j=p
   ·subst hj;rw[if_pos rfl]
   ·rw[if_neg hj,if_neg hj]
  rw[e,ih (fun q hq=>h1 q (List.mem_cons_of_mem _ hq)) (List.nodup_cons.1 h2).2 (upd b p 0) hbe (fun i hi hn=>by
   unfold upd
   by_cases hip:i=p
   ·rw[if_pos hip]
   ·rw[if_neg hip];exact hz i hi (by simp[hip,hn]))]
  have e2:∀n,dt (fun k=>b ((p::qs).getD k 0)) (fun k=>g ((p::qs).getD k 0)) (n+1)=Zat (b p) (g p) ^^^ dt (fun k=>b (qs.getD k 0)) (fun k=>g (qs.getD k 0)) n:=by
   intro n
   induction n with
   |zero=>rw[dt,dt,dt,Nat.zero_xor,Nat.xor_zero];rfl
   |succ n ih2=>rw[dt,ih2,dt,Nat.xor_assoc];rfl
  rw[List.length_cons,e2,Nat.xor_comm]
  congr 1
  refine ZaG _ (fun j hj=>?_) (fun _ _=>rfl)
  unfold upd
  rw[if_neg]
  intro hq
  exact hpq (hq▸ZbA hj)
theorem ZqL{m:Nat}{c:Nat→Nat}(hc:El c)(ps:List Nat)(hp:∀p∈ps,p<15)(hd:ps.Nodup)(hl:ps.length≤m)(hz:∀i,i<15→i∉ps→c i=0)(hs:∀j,j<m→Zl8 (j+1) c=0):∀i,i<15→c i=0:=by
 have hX:El (fun k=>Zbp (14-ps.getD k 0)):=fun _=>ZbU _
 have hC:El (fun k=>c (ps.getD k 0)):=fun _=>hc _
 have hv:=ZDr ps.length (fun k=>c (ps.getD k 0)) (fun k=>Zbp (14-ps.getD k 0)) 1 hC hX (fun _ _=>Zpl _) (fun i j hi hj he=>by
  have a:=hp _ (ZbA (d:=0) hi)
  have b:=hp _ (ZbA (d:=0) hj)
  have:=ZoB (by omega) (by omega) he
  have he2:ps.getD i 0=ps.getD j 0:=by omega
  rw[List.getD_eq_getElem?_getD,List.getElem?_eq_getElem hi,List.getD_eq_getElem?_getD,List.getElem?_eq_getElem hj]at he2
  exact(List.getElem_inj hd).1 he2) (fun j hj=>by
  have s:=hs j (by omega)
  unfold Zl8 at s
  rw[ZlA _ (ZfV (j+1)) ps hp hd c hc hz]at s
  refine Eq.trans ?_ s
  exact ZaG _ (fun _ _=>rfl) (fun k _=>by rw[Nat.add_comm 1 j,ZoI]))
 intro i hi
 by_cases hm:i∈ps
 ·obtain⟨k,hk,rfl⟩:=List.mem_iff_getElem.1 hm
  have:=hv k hk
  simpa[List.getD_eq_getElem?_getD,hk]using this
 ·exact hz i hi hm
end Go.Proofs.Ytklbmkllepkjcaa
/- What fills a word: the same word whoever fills it. No condition. -/
namespace Go.Proofs.Ytklbmkllepkjcaa
theorem ZpY(r y:Nat→Nat):∀n,dt r y (n+1)=Zat (r 0) (y 0) ^^^ dt (fun k=>r (k+1)) (fun k=>y (k+1)) n
 |0=>by rw[dt,dt,dt,Nat.zero_xor,Nat.xor_zero]
 |n+1=>by rw[dt,ZpY r y n,dt,Nat.xor_assoc]
theorem Zyr{w:List Int}(p:Nat)(v:Int)(hp:p<w.length):wfn (w.set p v)=upd (wfn w) p v.toNat:=by
 funext i
 unfold wfn upd
 rw[Zbz]
 by_cases h:i=p
 ·subst h;rw[if_pos ⟨rfl,hp⟩,if_pos rfl]
 ·rw[if_neg (fun a=>h a.1.symm),if_neg h]
def Zzg(e:List Int):Prop:=∀x∈e,0≤x∧x≤14
theorem Zif{e:List Int}(h:Zze e):Zzg e:=fun x hx=>by
 obtain⟨k,hk,rfl⟩:=List.mem_iff_getElem.1 hx
 have:=h k hk
 simpa[List.getD_eq_getElem?_getD,hk]using this
theorem Zk0{e:List Int}{p:Int}(h:erP p e=0):e.Nodup:=by
 refine List.pairwise_iff_getElem.2 fun i j hi hj hij=>?_
 have:=Zgn h i j hij hj
 rw[List.getD_eq_getElem?_getD,List.getElem?_eq_getElem hi,List.getD_eq_getElem?_getD,List.getElem?_eq_getElem hj]at this
 exact Int.ne_of_lt this
theorem ZrF:∀(e vs w:List Int) (p:Nat),Zzg e→(∀x∈e,x≠(p:Int))→(wrL w e vs).getD p 0=w.getD p 0
 |[],_,_,_,_,_=>by unfold wrL;rfl
 |_::_,[],_,_,_,_=>by unfold wrL;rfl
 |x::e,v::vs,w,p,h1,h2=>by
  rw[wrL,ZrF e vs _ p (fun y hy=>h1 y (List.mem_cons_of_mem _ hy)) (fun y hy=>h2 y (List.mem_cons_of_mem _ hy)),Zbz,if_neg]
  intro a
  have b:=h1 x List.mem_cons_self
  have c:=h2 x List.mem_cons_self
  omega
theorem ZiI:∀(e w:List Int) (p:Nat),Zzg e→(zrL w e).getD p 0=if(p:Int)∈e then 0 else w.getD p 0
 |[],_,_,_=>by simp[zrL]
 |x::e,w,p,h1=>by
  have b:=h1 x List.mem_cons_self
  rw[zrL,ZiI e _ p (fun y hy=>h1 y (List.mem_cons_of_mem _ hy)),Zbz]
  by_cases hp:(p:Int)∈e
  ·rw[if_pos hp,if_pos (List.mem_cons_of_mem _ hp)]
  ·rw[if_neg hp]
   by_cases hx:x=(p:Int)
   ·subst hx
    rw[if_pos List.mem_cons_self]
    by_cases hl:p<w.length
    ·rw[if_pos ⟨by omega,hl⟩]
    ·rw[if_neg (fun a=>hl a.2),List.getD_eq_getElem?_getD,List.getElem?_eq_none (by omega)];rfl
   ·rw[if_neg (fun a=>hx (by omega)),if_neg (fun a=>(List.mem_cons.1 a).elim (fun a=>hx a.symm) hp)]
theorem ZvS(j:Nat):∀(e vs w:List Int),w.length=15→Zbu w 0 15=0→Zzg e→e.Nodup→vs.length=e.length→(∀i,elB (vs.getD i 0)=true)→(∀x∈e,w.getD x.toNat 0=0)→Zl8 j (wfn (wrL w e vs))=Zl8 j (wfn w) ^^^ dt (fun i=>Zbp (j*(14-(e.getD i 0).toNat))) (fun i=>(vs.getD i 0).toNat) e.length
 |[],vs,w,_,_,_,_,_,_,_=>by unfold wrL;rw[List.length_nil,dt,Nat.xor_zero]
 |x::e,[],_,_,_,_,_,h,_,_=>by cases h
 |x::e,v::vs,w,hl,hr,hp,hd,hv,he,hz=>by
  have b:=hp x List.mem_cons_self
  have v0:elB v=true:=he 0
  have v1:=of_decide_eq_true v0
  have hx:=(List.nodup_cons.1 hd).1
  rw[wrL,ZvS j e vs (w.set x.toNat v) (by rw[List.length_set,hl]) (Zmo hr _ v0) (fun y hy=>hp y (List.mem_cons_of_mem _ hy)) (List.nodup_cons.1 hd).2 (by simpa using hv) (fun i=>he (i+1)) (fun y hy=>by
   have b2:=hp y (List.mem_cons_of_mem _ hy)
   rw[Zbz,if_neg (fun a=>hx (by have e0:x=y:=(by omega);exact e0▸hy))]
   exact hz y (List.mem_cons_of_mem _ hy))]
  have w0:wfn w x.toNat=0:=by unfold wfn;rw[hz x List.mem_cons_self];rfl
  unfold Zl8
  rw[Zyr _ _ (by omega),ZpV w0 (ZcC hr) (ZfV j) (by omega),if_pos (show x.toNat<15 by omega),List.length_cons,ZpY _ _ e.length,Nat.xor_assoc]
  congr 2
  exact Za8 (a:=v.toNat) (show v.toNat<16 by omega) (ZbU _)
theorem ZC3:∀(e c:List Int),c.length=15→Zzg e→e.Nodup→∀w:List Int,w.length=15→(∀p:Nat,p<15→(p:Int)∉e→w.getD p 0=c.getD p 0)→wrL w e (e.map fun x=>c.getD x.toNat 0)=c
 |[],c,hc,_,_,w,hw,h=>by
  unfold wrL
  refine List.ext_getElem (by omega) fun i h1 h2=>?_
  have:=h i (by omega) (by simp)
  rwa[List.getD_eq_getElem?_getD,List.getElem?_eq_getElem h1,List.getD_eq_getElem?_getD,List.getElem?_eq_getElem h2]at this
 |x::e,c,hc,hp,hd,w,hw,h=>by
  have b:=hp x List.mem_cons_self
  rw[List.map_cons,wrL]
  refine ZC3 e c hc (fun y hy=>hp y (List.mem_cons_of_mem _ hy)) (List.nodup_cons.1 hd).2 _ (by rw[List.length_set,hw]) fun p h1 h2=>?_
  rw[Zbz]
  by_cases hx:x.toNat=p
  ·subst hx;rw[if_pos ⟨rfl,by omega⟩]
  ·rw[if_neg (fun a=>hx a.1)]
   exact h p h1 (fun a=>(List.mem_cons.1 a).elim (fun a=>by omega) h2)
theorem ZCI{l e:List Int}(hl:Zbu l 0 15=0)(h15:l.length=15)(j:Nat){y:Nat→Nat}(h1:y e.length=1):dt (fiM l e j) y (e.length+1)=dt (fun i=>Zbp ((j+1)*(14-(e.getD i 0).toNat))) y e.length ^^^ Zl8 (j+1) (wfn l):=by
 have e1:fiM l e j e.length=Zl8 (j+1) (wfn l):=by
  unfold fiM
  rw[if_neg (Nat.lt_irrefl _),if_pos rfl]
  have:=Zhe h15 (j+1)
  unfold syI at this
  omega
 rw[dt,h1,e1,ZgK (show Zl8 (j+1) (wfn l)<16 from Zj7 (ZcC hl) (ZfV _) 15)]
 congr 1
 refine ZaG _ (fun i hi=>?_) (fun _ _=>rfl)
 unfold fiM
 rw[if_pos hi]
theorem ZFH{h:Int}{w e vs:List Int}(hg:fiG w h e=true)(hv:vs.length=e.length)(he:∀i,elB (vs.getD i 0)=true):ZA (fiM (zrL w e) e) (2*h.toNat) e.length (fun j=>if j<e.length then(vs.getD j 0).toNat else 1)↔isW h (wrL (zrL w e) e vs)=true:=by
 obtain⟨g1,g2,g3,g4,g5⟩:=Zer hg
 obtain⟨z2,z3⟩:=okw_iff.1 (ZiZ e g1)
 rw[ZpT (by rw[ZiG,z2])]
 refine forall_congr' fun j=>imp_congr_right fun _=>?_
 rw[ZCI z3 z2 j (if_neg (Nat.lt_irrefl _)),ZvS (j+1) e vs _ z2 z3 (Zif g4) (Zk0 g5) hv he (fun x hx=>by
  have:=Zif g4 x hx
  rw[ZiI e w x.toNat (Zif g4),if_pos]
  rwa[Int.toNat_of_nonneg this.1]),Nat.xor_comm,ZaG (s:=fun i=>Zbp ((j+1)*(14-(e.getD i 0).toNat))) e.length (fun _ _=>rfl) (fun i hi=>if_pos hi)]
theorem ZhM{h:Int}{w e:List Int}(hg:fiG w h e=true):fiO h w e=isW h (fiW h w e):=by
 obtain⟨B,hB⟩:=Zkq hg
 obtain⟨b1,b2,b3,b4⟩:=ZpZ hg hB
 have q:=ZFH hg (Zc2 B e.length e.length) (fun i=>Zml b1 _ _ i)
 have hy:El (fun j=>if j<e.length then(((ZcI B e.length e.length).getD j 0)).toNat else 1):=fun j=>by
  have:=of_decide_eq_true (Zml b1 e.length e.length j)
  show(if j<e.length then((ZcI B e.length e.length).getD j 0).toNat else 1)<16
  split<;>omega
 rw[←b4 _ hy,Zku b1 b2 b3 hy (if_neg (Nat.lt_irrefl _))]at q
 have s0:∀j,j<e.length→(if j<e.length then((ZcI B e.length e.length).getD j 0).toNat else 1)=B j e.length:=fun j hj=>by
  rw[if_pos hj]
  unfold ZcI
  rw[List.getD_eq_getElem?_getD,List.getElem?_map,List.getElem?_range hj];rfl
 have z:fiZ (2*h.toNat) e.length B=true↔∀i,e.length≤i→i<2*h.toNat→B i e.length=0:=by
  unfold fiZ
  rw[List.all_eq_true]
  constructor
  ·intro a i h1 h2
   have:=a i (List.mem_range.2 h2)
   rw[Bool.or_eq_true,decide_eq_true_eq,decide_eq_true_eq]at this
   rcases this with t |t
   ·omega
   ·exact t
  ·intro a i hi
   rw[Bool.or_eq_true,decide_eq_true_eq,decide_eq_true_eq]
   by_cases h1:i<e.length
   ·exact Or.inl h1
   ·exact Or.inr (a i (by omega) (List.mem_range.1 hi))
 unfold fiO fiW
 rw[hB]
 show fiZ _ _ B=isW h (wrL (zrL w e) e (ZcI B e.length e.length))
 rw[Bool.eq_iff_iff,z,←q]
 exact⟨fun a=>⟨s0,a⟩,fun a=>a.2⟩
theorem ZFk{h:Int}{w e:List Int}(ho:fiO h w e=true):fiV h w e=fiW h w e:=by
 unfold fiO at ho
 unfold fiV fiW
 cases hB:fiB h w e with
 |none=>rw[hB]at ho;cases ho
 |some B=>rw[hB]at ho;exact if_pos ho
theorem Znk{h:Int}{w e c:List Int}(hg:fiG w h e=true)(hc:okw c=true)(hw:isW h c=true)(ha:∀p:Nat,p<15→(p:Int)∉e→w.getD p 0=c.getD p 0):fiW h w e=c:=by
 obtain⟨g1,g2,g3,g4,g5⟩:=Zer hg
 obtain⟨z2,z3⟩:=okw_iff.1 (ZiZ e g1)
 obtain⟨c2,c3⟩:=okw_iff.1 hc
 obtain⟨B,hB⟩:=Zkq hg
 obtain⟨b1,b2,b3,b4⟩:=ZpZ hg hB
 have hx:=ZC3 e c c2 (Zif g4) (Zk0 g5) (zrL w e) z2 (fun p h1 h2=>by rw[ZiI e w p (Zif g4),if_neg h2];exact ha p h1 h2)
 have hel:∀i,elB ((e.map fun x=>c.getD x.toNat 0).getD i 0)=true:=fun i=>by
  rw[List.getD_eq_getElem?_getD,List.getElem?_map]
  cases hi:e[i]? with
  |none=>rfl
  |some x=>exact ZiH c3 x.toNat
 have q:=(ZFH hg (List.length_map _) hel).2 (by rw[hx];exact hw)
 have hy:El (fun j=>if j<e.length then((e.map fun x=>c.getD x.toNat 0).getD j 0).toNat else 1):=fun j=>by
  have:=of_decide_eq_true (hel j)
  show(if j<e.length then((e.map fun x=>c.getD x.toNat 0).getD j 0).toNat else 1)<16
  split<;>omega
 rw[←b4 _ hy,Zku b1 b2 b3 hy (if_neg (Nat.lt_irrefl _))]at q
 have hs:ZcI B e.length e.length=e.map fun x=>c.getD x.toNat 0:=by
  refine List.ext_getElem (by rw[Zc2,List.length_map]) fun i h1 h2=>?_
  have hi:i<e.length:=by rwa[List.length_map]at h2
  have a:=q.1 i hi
  rw[if_pos hi]at a
  have b:=of_decide_eq_true (hel i)
  rw[List.getD_eq_getElem?_getD,List.getElem?_eq_getElem h2]at a b
  have s:(ZcI B e.length e.length)[i]=((B i e.length:Nat):Int):=by simp[ZcI]
  rw[s,←a]
  exact Int.toNat_of_nonneg b.1
 unfold fiW
 rw[hB]
 show wrL (zrL w e) e (ZcI B e.length e.length)=c
 rw[hs,hx]
end Go.Proofs.Ytklbmkllepkjcaa
/- Roots of polynomials over the field of 16; sums of sums. No condition. -/
namespace Go.Proofs.Ytklbmkllepkjcaa
def hn(q:Nat→Nat)(x:Nat):Nat→Nat
 |0=>0
 |n+1=>Zat (hn q x n) x ^^^ q n
theorem ZiN{q:Nat→Nat}(hq:El q){x:Nat}(hx:x<16):∀n,hn q x n<16
 |0=>by rw[hn];decide
 |n+1=>ZbW (Zbt (ZiN hq hx n) hx) (hq n)
theorem Zwh{q:Nat→Nat}(hq:El q){x a:Nat}(hx:x<16)(ha:a<16):∀n,hn q x (n+1) ^^^ hn q a (n+1)=Zat (hn (fun i=>hn q a (i+1)) x n) (x ^^^ a)
 |0=>by rw[hn,hn,hn,hn,hn,Zdn hx,Zdn ha,Zdn (ZbW hx ha),Nat.xor_self]
 |n+1=>by
  have ih:=Zwh hq hx ha n
  have hq':El (fun i=>hn q a (i+1)):=fun i=>ZiN hq ha (i+1)
  have l1:=ZiN hq hx (n+1)
  have l2:=ZiN hq ha (n+1)
  have l3:=ZiN hq' hx n
  have e1:hn (fun i=>hn q a (i+1)) x (n+1)=Zat (hn (fun i=>hn q a (i+1)) x n) x ^^^ hn q a (n+1):=rfl
  have e2:hn q x (n+1)=hn q a (n+1) ^^^ Zat (hn (fun i=>hn q a (i+1)) x n) (x ^^^ a):=by
   rw[←ih,Nat.xor_comm (hn q x (n+1)),←Nat.xor_assoc,Nat.xor_self,Nat.zero_xor]
  have e3:∀k,hn q k (n+1+1)=Zat (hn q k (n+1)) k ^^^ q (n+1):=fun k=>rfl
  rw[e3,e3,e1,Zj1,Nat.xor_self,Nat.xor_zero,ZcH (Zbt l3 hx) l2 (ZbW hx ha),e2]
  generalize hn (fun i=>hn q a (i+1)) x n=P at*
  clear e2 e3 e1 ih l1
  generalize hn q a (n+1)=Q at*
  rw[ZcH l2 (Zbt l3 (ZbW hx ha)) hx,Zxn hx ha l2,ZaD l3 (ZbW hx ha) hx,ZaD l3 hx (ZbW hx ha),Za8 (ZbW hx ha) hx]
  generalize Zat P _=PP
  rw[Nat.xor_assoc,Nat.xor_comm PP (Zat Q a),←Nat.xor_assoc,Nat.xor_comm]
theorem Zfy:∀(n:Nat) (q X:Nat→Nat),El q→El X→(∀i j,i<n→j<n→X i=X j→i=j)→(∀k,k<n→hn q (X k) n=0)→∀i,i<n→q i=0
 |0,_,_,_,_,_,_,i,hi=>by omega
 |n+1,q,X,hq,hX,hd,hz,i,hi=>by
  have z:=hz n (by omega)
  have ih:=Zfy n (fun i=>hn q (X n) (i+1)) X (fun i=>ZiN hq (hX n) (i+1)) hX (fun i j hi hj=>hd i j (by omega) (by omega)) (fun k hk=>by
   have s:=Zwh hq (hX k) (hX n) n
   rw[z,hz k (by omega),Nat.xor_self]at s
   rcases ZbJ (ZiN (q:=fun i=>hn q (X n) (i+1)) (fun i=>ZiN hq (hX n) (i+1)) (hX k) n) (ZbW (hX k) (hX n)) s.symm with h |h
   ·exact h
   ·have:=hd k n (by omega) (by omega) (Zka h);omega)
  have a:∀j,j≤n+1→hn q (X n) j=0:=fun j hj=>by
   cases j with
   |zero=>rfl
   |succ j=>
    by_cases h:j<n
    ·exact ih j h
    ·have:j=n:=by omega
     subst this;exact z
  have b:=a (i+1) (by omega)
  rw[hn,a i (by omega),Zdn (hX n),Nat.zero_xor]at b
  exact b
theorem Zrh{x:Nat}(hx:x<16)(a:Nat):∀b,pw x (a+b)=Zat (pw x a) (pw x b)
 |0=>by rw[Nat.add_zero,pw,ZgK (Zbh hx a)]
 |b+1=>by
  rw[←Nat.add_assoc,pw,Zrh hx a b,pw,ZaD (Zbh hx a) (Zbh hx b) hx]
theorem Zqc{E y:Nat→Nat}{f:Nat→Nat→Nat}(hE:El E)(hy:El y)(hf:∀k,El (f k))(t:Nat):∀n,dt (fun i=>dt E (fun k=>f k i) t) y n=dt E (fun k=>dt (f k) y n) t
 |0=>by
  rw[dt]
  exact(ZlN hE t (fun k _=>by rw[dt])).symm
 |n+1=>by
  rw[dt,Zqc hE hy hf t n]
  have hl:El (fun k=>dt (f k) y n):=fun k=>Zj7 (hf k) hy n
  have hr:El (fun k=>f k n):=fun k=>hf k n
  have hr2:El (fun k=>Zat (f k n) (y n)):=fun k=>Zbt (hf k n) (hy n)
  have s:=Ze9 hr hE (hy n) t
  rw[Zh0 hE hl t,Zh0 hE hr t,←s,←Zol hl hr2 hE t,Zh0 (fun k=>ZbW (hl k) (hr2 k)) hE t]
  exact ZaG _ (fun _ _=>rfl) (fun k _=>by rw[dt])
end Go.Proofs.Ytklbmkllepkjcaa
