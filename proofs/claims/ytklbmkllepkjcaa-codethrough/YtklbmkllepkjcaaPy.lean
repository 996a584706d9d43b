/- Contracts as a list. No condition. -/
import Derived.Test.YtklbmkllepkjcaaGg
import Derived.KernelRfl
namespace Go.Proofs.Ytklbmkllepkjcaa
def poM(s:List Int)(u:Nat):Mat:=fun j i=>if i<u then(s.getD (j+u-(i+1)) 0).toNat else if i=u then(s.getD (j+u) 0).toNat else 0
def evP(z:Nat):Nat→Nat→List Nat→Nat
 |m,_,[]=>m
 |m,t,a::l=>evP z (m ^^^ Zav a (Zav t z)) (Zav t z) l
def zN(i:Nat):Nat:=ZiU (ZbH (14-i))
def cN(B:Mat)(u:Nat):List Nat:=(List.range u).map fun j=>B j u
def poX(c:List Nat)(n:Nat):List Int:=((List.range n).filter fun i=>evP (zN i) 1 1 c==0).map fun i:Nat=>(i:Int)
def poB(s:List Int)(u:Nat):Option Mat:=elA (s.length-u) u 0 (poM s u)
def poC(s:List Int)(u:Nat):Option (List Nat):=match poB s u with
 |none=>none
 |some B=>if fiZ (s.length-u) u B=true then some (cN B u)else none
def ZkQ(s:List Int)(u:Nat):List Int:=match poC s u with
 |none=>[]
 |some c=>poX c 15
def poO(s:List Int)(u:Nat):Bool:=match poC s u with
 |none=>false
 |some c=>decide ((poX c 15).length=u)
theorem ZAG{s:List Int}(h:s.all elB=true)(j:Nat):elB (s.getD j 0)=true:=by
 by_cases hj:j<s.length
 ·exact List.all_eq_true.1 h _ (Zbq hj)
 ·rw[List.getD_eq_getElem?_getD,List.getElem?_eq_none (by omega)];rfl
theorem ZrX{s:List Int}(h:s.all elB=true)(u:Nat):ElM (poM s u):=fun j i=>by
 have k:=fun n=>of_decide_eq_true (ZAG h n)
 unfold poM
 split
 ·have:=k (j+u-(i+1));omega
 ·split
  ·have:=k (j+u);omega
  ·decide
def pwM(s:List Int)(u n:Nat):List (List Int):=(List.range n).map fun j=>ZcF u (poM s u j)
theorem Zv0(s:List Int)(u n:Nat):(pwM s u n).length=n:=by simp[pwM]
theorem Zzq(s:List Int)(u n:Nat):pwM s u (n+1)=pwM s u n++[ZcF u (poM s u n)]:=by unfold pwM;rw[List.range_succ,List.map_append];rfl
theorem ZBf(s:List Int)(u R:Nat):St R u (List.range R) (pwM s u R) (poM s u):=by
 have g:∀i,i<R→(List.range R).getD i 0=i:=fun i hi=>by rw[List.getD_eq_getElem?_getD,List.getElem?_range hi];rfl
 refine⟨List.length_range,fun i j hi hj e=>by rw[g i hi,g j hj]at e;exact e,fun i hi=>by rw[g i hi,Zv0];exact hi,fun i hi=>?_⟩
 rw[g i hi]
 unfold pwM
 rw[List.getD_eq_getElem?_getD,List.getElem?_map,List.getElem?_range hi];rfl
def pwP(s:List Int)(u j n:Nat):List Int:=(List.range n).map fun i=>s.getD (j+u-(i+1)) 0
theorem Zua(s:List Int)(u j n:Nat):(pwP s u j n).length=n:=by simp[pwP]
theorem Zzj(s:List Int)(u j n:Nat):pwP s u j (n+1)=pwP s u j n++[s.getD (j+u-(n+1)) 0]:=by unfold pwP;rw[List.range_succ,List.map_append];rfl
theorem ZDp{s:List Int}(h:s.all elB=true)(u j:Nat):pwP s u j u++[s.getD (j+u) 0]=ZcF u (poM s u j):=by
 have k:=fun n=>of_decide_eq_true (ZAG h n)
 unfold ZcF
 rw[List.range_succ,List.map_append]
 congr 1
 ·unfold pwP
  refine List.map_congr_left fun i hi=>?_
  rw[poM,if_pos (List.mem_range.1 hi)]
  have:=k (j+u-(i+1));omega
 ·rw[List.map_cons,List.map_nil,poM,if_neg (Nat.lt_irrefl _),if_pos rfl]
  have:=k (j+u)
  congr 1;omega
section
variable {C:Ctx}(hC:C.P=Try.prog)(s:List Int)(hs:s.all elB=true)(hl:s.length≤6)(u:Nat)(hu:u≤6)
include hC hs hl hu
theorem ZIQ(j:Nat)(hj:j+u<s.length)(l1:List Nat)(l2:List (List Int))(h1:l1.length≤1000)(r:AV)(fr:Option Fresh)
 (hn:Ev C (ZdR s u ((j+1:Nat):Int) (l1++[l2.length]) (l2++[ZcF u (poM s u j)])) (ZcW s u ((j+1:Nat):Int) (l1++[l2.length]) (l2++[ZcF u (poM s u j)])) (ZaI 116 r fr)):
 ∀(c i:Nat),i+c=u→Ev C (ZfP s u j l1 l2 ((i+1:Nat):Int) (pwP s u j i)) (ZeD s u j l1 l2 ((i+1:Nat):Int) (pwP s u j i)) (ZaI 116 r fr):=by
 intro c
 induction c with
 |zero=>
  intro i hc
  have q:=Zua s i j i
  have k1:((j:Int)+(u:Int)).toNat=j+u:=by omega
  rw[←ZDp hs,←show i=u by omega]at hn
  rw[←show i=u by omega]at k1 hj⊢
  refine tgo hC ZaN Ziz ?_
  simp only[Zef,Zgd,ZaX,Zbu,k1]
  simp[-List.getD_eq_getElem?_getD,hj,show ¬(i:Int)+1≤(i:Int) by omega,q,AV.bx,Zag]at hn⊢
  exact⟨by omega,hn⟩
 |succ c ih=>
  intro i hc
  have q:=Zua s u j i
  have i0:=ih (i+1) (by omega)
  rw[Zzj]at i0
  have k1:((j:Int)+(u:Int)-((i+1:Nat):Int)).toNat=j+u-(i+1):=by omega
  have hlt:j+u-(i+1)<s.length:=by omega
  refine tgo hC ZaN Ziz ?_
  simp only[Zef,Zgd,Zp2,ZaX,Zbu,k1]
  simp[-List.getD_eq_getElem?_getD,hlt,show(i:Int)+1≤(u:Int) by omega,q,AV.bx,Zag]at i0⊢
  refine⟨?_,i0⟩
  omega
theorem ZBt(huS:u≤s.length)(r:AV)(fr:Option Fresh)
 (hn:Ev C (ZbW s u ((s.length-u:Nat):Int) ((s.length:Nat):Int) ((s.length:Nat):Int) false 0 (List.range (s.length-u)) (pwM s u (s.length-u))) (ZbE s u ((s.length-u:Nat):Int) ((s.length:Nat):Int) ((s.length:Nat):Int) false 0 (List.range (s.length-u)) (pwM s u (s.length-u))) (ZaI 116 r fr)):
 ∀(c j:Nat),j+c=s.length-u→Ev C (ZdR s u j (List.range j) (pwM s u j)) (ZcW s u j (List.range j) (pwM s u j)) (ZaI 116 r fr):=by
 intro c
 induction c with
 |zero=>
  intro j hc
  refine tgo hC ZaN Ziu ?_
  have e1:(j:Int)+(u:Int)=(s.length:Int):=by omega
  rw[←show j=s.length-u by omega]at hn
  simp only[Zd9,Zgd,e1]
  simp[-List.getD_eq_getElem?_getD]at hn⊢
  exact⟨by omega,hn⟩
 |succ c ih=>
  intro j hc
  have i0:=ih (j+1) (by omega)
  have q:=Zv0 s u j
  rw[Zzq,List.range_succ]at i0
  have i1:=ZIQ hC s hs hl u hu j (by omega) (List.range j) (pwM s u j) (by simp;omega) r fr (by rw[q];exact i0) u 0 (by omega)
  refine tgo hC ZaN Ziu ?_
  simp[-List.getD_eq_getElem?_getD,Zd9,show(j:Int)+(u:Int)<(s.length:Int) by omega,pwP]at i1⊢
  exact⟨by omega,i1⟩
end
theorem Znf(c:List Nat)(n:Nat):poX c (n+1)=if evP (zN n) 1 1 c=0 then poX c n++[(n:Int)]else poX c n:=by
 unfold poX
 rw[List.range_succ,List.filter_append,List.map_append]
 by_cases h:evP (zN n) 1 1 c=0<;>simp[h]
theorem Zvs(c:List Nat):∀n,(poX c n).length≤n
 |0=>by simp[poX]
 |n+1=>by
  have:=Zvs c n
  rw[Znf];split<;>simp<;>omega
theorem ZGk{B:Mat}{u j:Nat}(h:j<u):(cN B u).drop j=B j u::(cN B u).drop (j+1):=by
 rw[List.drop_eq_getElem_cons (by simp[cN];exact h)]
 simp[cN]
theorem ZI6(B:Mat)(u:Nat):(cN B u).length=u:=by simp[cN]
theorem ZLW(i:Nat):zN i<16:=(Zzz (Zcc _) (ZsB _)).1
section
variable {C:Ctx}(hC:C.P=Try.prog)(u:Nat)(hu:u≤6)(rows:List (List Int)){B:Mat}(hB:ElM B)
include hC hu hB
theorem ZIe(i:Nat)(hi:i<15)(l:List Int)(hl:l.length≤15)(r:AV)(fr:Option Fresh)
 (hn:Ev C (ZbT u rows (Zc7 B u u) ((i+1:Nat):Int) (if evP (zN i) 1 1 (cN B u)=0 then l++[(i:Int)]else l)) (ZbF u rows (Zc7 B u u) ((i+1:Nat):Int) (if evP (zN i) 1 1 (cN B u)=0 then l++[(i:Int)]else l)) (ZaI 116 r fr)):
 ∀(c k m t:Nat),k+c=u→m<16→t<16→evP (zN i) m t ((cN B u).drop k)=evP (zN i) 1 1 (cN B u)→Ev C (ZfG u rows (Zc7 B u u) i l u ((m:Nat):Int) ((t:Nat):Int) k ((zN i:Nat):Int)) (ZeJ u rows (Zc7 B u u) i l u ((m:Nat):Int) ((t:Nat):Int) k ((zN i:Nat):Int)) (ZaI 116 r fr):=by
 intro c
 induction c with
 |zero=>
  intro k m t hc hm ht he
  rw[List.drop_of_length_le (by rw[ZI6];omega),evP]at he
  refine tgo hC ZaN Zin ?_
  rw[←he]at hn
  by_cases h0:m=0
  ·subst h0
   simp[-List.getD_eq_getElem?_getD,ZcX,show ¬(k:Int)<(u:Int) by omega,AV.bx,Zag]at hn⊢
   exact⟨by omega,hn⟩
  ·have h0':¬((m:Nat):Int)=0:=by omega
   simp[-List.getD_eq_getElem?_getD,ZcX,show ¬(k:Int)<(u:Int) by omega,h0,AV.bx,Zag]at hn⊢
   exact⟨by omega,hn⟩
 |succ c ih=>
  intro k m t hc hm ht he
  have hk:k<u:=by omega
  rw[ZGk hk,evP]at he
  have z16:=ZLW i
  have l1:=ZbJ ht z16
  have l2:=ZbJ (hB k u) l1
  have i0:=ih (k+1) (m ^^^ Zav (B k u) (Zav t (zN i))) (Zav t (zN i)) (by omega) (Zcj hm l2) l1 he
  have sl:=ZdD B u u
  have sv:(Zc7 B u u).getD k 0=((B k u:Nat):Int):=by
   unfold Zc7
   rw[List.getD_eq_getElem?_getD,List.getElem?_map,List.getElem?_range hk];rfl
  have x1:gM ((t:Nat):Int) ((zN i:Nat):Int)=((Zav t (zN i):Nat):Int):=rfl
  have x2:gM ((B k u:Nat):Int) ((Zav t (zN i):Nat):Int)=((Zav (B k u) (Zav t (zN i)):Nat):Int):=rfl
  have x3:=Ze0 (r:=m) (k:=Zav (B k u) (Zav t (zN i))) (by omega) (by omega)
  have b1:=Zbw ht
  have b2:=Zbw z16
  have b3:=Zbw (hB k u)
  have b4:=Zbw l1
  refine tgo hC ZaN Zin ?_
  simp only[ZcX,ZaX,Zbu,Int.toNat_natCast,sv,x1,x2,x3]
  simp[-List.getD_eq_getElem?_getD,hk,sl,b1,b2,b3,b4,show(k:Int)<(u:Int) by omega]at i0⊢
  exact⟨by omega,i0⟩
theorem ZJG:∀(c i:Nat),i+c=15→Ev C (ZbT u rows (Zc7 B u u) i (poX (cN B u) i)) (ZbF u rows (Zc7 B u u) i (poX (cN B u) i)) (ZaI 116 (.tup [.row 0 0, .bool (decide ((poX (cN B u) 15).length=u))]) (some ⟨3,1, .ints .i64 (poX (cN B u) 15)⟩)):=by
 intro c
 induction c with
 |zero=>
  intro i hc
  have:i=15:=by omega
  subst this
  refine tgo hC ZaN ZiD ?_
  simp[-List.getD_eq_getElem?_getD,Zd5]
  omega
 |succ c ih=>
  intro i hc
  have i0:=ih (i+1) (by omega)
  rw[Znf]at i0
  have sl:=ZdD B u u
  have i1:=ZIe hC u hu rows hB i (by omega) (poX (cN B u) i) (by have:=Zvs (cN B u) i;omega) _ _ i0 u 0 1 1 (by omega) (by omega) (by omega) (by rw[List.drop_zero])
  have e1:ZCw (i:Int)=((ZbH (14-i):Nat):Int):=by
   unfold ZCw gP
   rw[show ((14:Int)-(i:Int)).toNat=14-i by omega]
  have b1:=Zbw (Zcc (14-i))
  have e2:gI ((ZbH (14-i):Nat):Int)=((zN i:Nat):Int):=rfl
  refine tgo hC ZaN ZiD ?_
  simp only[Zd5,e1,e2]
  simp[-List.getD_eq_getElem?_getD,b1,sl,show(i:Int)<15 by omega]at i1⊢
  exact⟨by omega,i1⟩
end
theorem Zt7(s:List Int)(u:Int)(h:s.all elB=true∧s.length≤6∧0≤u∧u≤s.length):Zai Try.prog 116 [.list (.ints .i64 s), .int .i64 u] (.tup [.list (.ints .i64 (ZkQ s u.toNat)), .bool (poO s u.toNat)]) Zsv:=by
 obtain⟨h1,h2,h3,h4⟩:=h
 obtain⟨U,rfl⟩:=Int.eq_ofNat_of_zero_le h3
 rw[Int.toNat_natCast]
 cases hc:poC s U with
 |none=>
  have e1:ZkQ s U=[]:=by unfold ZkQ;rw[hc]
  have e2:poO s U=false:=by unfold poO;rw[hc]
  rw[e1,e2]
  refine ZmJ (r:=.tup [.nils, .bool false]) (fr:=none) ?_ rfl (.tup ⟨.nil _ rfl, .same _ rfl rfl,trivial⟩)
  refine start (ZqS s U) fun C hC=>tgo hC ZaN ZA4 ?_
  have i6:=ZBv hC s ((s.length-U:Nat):Int) ((s.length:Nat):Int) ((s.length:Nat):Int) false (s.length-U) U (by omega) (by omega) (.tup [.nils, .bool false]) none (A:=poM s U) (refs:=List.range (s.length-U)) (rows:=pwM s U (s.length-U)) (ZrX h1 U) (ZBf _ _ _) (fun B rows hB hz=>by
   exfalso
   unfold poC poB at hc
   rw[hB]at hc
   simp only[fiZ_iff.2 hz,if_true]at hc
   cases hc) (fun _=>⟨rfl,rfl⟩)
  have i2:=ZBt hC s h1 h2 U (by omega) (by omega) _ _ i6 (s.length-U) 0 (by omega)
  simp[Ztn,pwM]at i2⊢
  exact i2
 |some c=>
  have e1:ZkQ s U=poX c 15:=by unfold ZkQ;rw[hc]
  have e2:poO s U=decide ((poX c 15).length=U):=by unfold poO;rw[hc]
  rw[e1,e2]
  refine ZmJ (r:=.tup [.row 0 0, .bool (decide ((poX c 15).length=U))]) (fr:=some ⟨3,1, .ints .i64 (poX c 15)⟩) ?_ rfl (.tup ⟨.row _ rfl rfl rfl, .same _ rfl rfl,trivial⟩)
  refine start (ZqS s U) fun C hC=>tgo hC ZaN ZA4 ?_
  have i6:=ZBv hC s ((s.length-U:Nat):Int) ((s.length:Nat):Int) ((s.length:Nat):Int) false (s.length-U) U (by omega) (by omega) (.tup [.row 0 0, .bool (decide ((poX c 15).length=U))]) (some ⟨3,1, .ints .i64 (poX c 15)⟩) (A:=poM s U) (refs:=List.range (s.length-U)) (rows:=pwM s U (s.length-U)) (ZrX h1 U) (ZBf _ _ _) (fun B rows hB hz=>by
   have hbe:=(ZfM (u:=U) U 0 _ B (ZrX h1 U) (ZcR _ _) (by omega) (fun _=>Nat.zero_le _) hB).1
   unfold poC poB at hc
   rw[hB]at hc
   simp only[fiZ_iff.2 hz,if_true,Option.some.injEq]at hc
   subst hc
   simpa[poX]using ZJG hC U (by omega) rows hbe 15 0 (by omega)) (fun hno=>by
   exfalso
   unfold poC poB at hc
   cases hB:elA (s.length-U) U 0 (poM s U)with
   |none=>rw[hB]at hc;cases hc
   |some B=>
    rw[hB]at hc
    have:=hno B hB
    rw[←fiZ_iff]at this
    simp only[this,if_false,Bool.false_eq_true]at hc
    cases hc)
  have i2:=ZBt hC s h1 h2 U (by omega) (by omega) _ _ i6 (s.length-U) 0 (by omega)
  simp[Ztn,pwM]at i2⊢
  exact i2
def k116:Ctr:=⟨116,0,fun _ a=>match a with |[.list (.ints .i64 s), .int .i64 u]=>some (decide (s.all elB=true∧s.length≤6∧0≤u∧u≤s.length), .tup [.list (.ints .i64 (ZkQ s u.toNat)), .bool (poO s u.toNat)],Zsv) |_=>none⟩
theorem ZBN:k116.OK Try.prog:=fun pa args r fr h=>by
 simp only[k116]at h
 split at h
 ·simp only[Option.some.injEq,Prod.mk.injEq,decide_eq_true_eq]at h
  obtain⟨h0,rfl,rfl⟩:=h
  exact Zt7 _ _ h0
 ·cases h
def Kj:List Ctr:=[k116]++Ki
theorem ZsN:Zay Try.prog Kj:=⟨ZBN,ZLn⟩
end Go.Proofs.Ytklbmkllepkjcaa
/- Paths of functions, printed by the explorer (Gx). No condition. -/
namespace Go.Proofs.Ytklbmkllepkjcaa
set_option maxRecDepth 100000
set_option linter.unusedVariables false
def ZH6(w:List Int)(h:Int):AFrame:={ fn:=90,N:=56,env:=[(0,AV.agg (.ints .i64 w)),(1,AV.int .i64 h)],todo:=[.code a90.code],defs:=[],rnd:=none,ret:=false,res:=[ARes.cell 4 true 15,ARes.tmp 5,ARes.tmp 6] }
def ZQm(w:List Int)(h:Int):List AFrame:=[(ZH6 w h)]
theorem ZEJ(w:List Int)(h:Int):Zaq tab 90 [AV.agg (.ints .i64 w),AV.int .i64 h]=some (ZH6 w h):=rfl
def Zju(w:List Int)(h:Int)(A:Ar)(n0:Int)(l1:List Int)(n2:Int):List AFrame:=[{ fn:=90,N:=56,env:=[(1,AV.int .i64 h),(2,AV.ptr 90003 0 0 0),(4,AV.ptr 90005 0 0 0),(7,AV.row 90018 0),(19,AV.int .i64 n0),(20,AV.int .i64 n2)],todo:=.code (ACode.gh [] ZJT)::ZME,defs:=[],rnd:=none,ret:=false,res:=[ARes.cell 4 true 15,ARes.tmp 5,ARes.tmp 6] }]
def Zhq(w:List Int)(h:Int)(A:Ar)(n0:Int)(l1:List Int)(n2:Int):Zaa:=[(90003,{ base:=0,blks:=[Blk.row 107 (A.len w) (Row.gen [.agg (.ints .i64 w)])] }),(90005,{ base:=0,blks:=[Blk.row 107 15 (Row.gen [.agg (.ints .i64 [0,0,0,0,0,0,0,0,0,0,0,0,0,0,0])])] }),(90018,{ base:=0,blks:=[Blk.row 3 1 (.ints .i64 l1)] })]
abbrev Zhn(w:List Int)(h:Int)(A:Ar)(n0:Int)(l1:List Int)(n2:Int):List AFrame×Zaa:=(Zju w h A n0 l1 n2,Zhq w h A n0 l1 n2)
def Zjd(w:List Int)(A:Ar)(l3:List Int)(n4 n5:Int):List AFrame:=[{ fn:=90,N:=56,env:=[(2,AV.ptr 90003 0 0 0),(4,AV.ptr 90005 0 0 0),(11,AV.ptr 90012 0 0 0),(13,AV.int .i64 n4),(39,AV.int .i64 n5)],todo:=.code (ACode.gh [] ZIs)::ZL8,defs:=[],rnd:=none,ret:=false,res:=[ARes.cell 4 true 15,ARes.tmp 5,ARes.tmp 6] }]
def Zh4(w:List Int)(A:Ar)(l3:List Int)(n4 n5:Int):Zaa:=[(90003,{ base:=0,blks:=[Blk.row 107 (A.len w) (Row.gen [.agg (.ints .i64 w)])] }),(90005,{ base:=0,blks:=[Blk.row 107 15 (Row.gen [.agg (.ints .i64 [0,0,0,0,0,0,0,0,0,0,0,0,0,0,0])])] }),(90012,{ base:=0,blks:=[Blk.row 107 15 (Row.gen [.agg (.ints .i64 l3)])] })]
abbrev ZhF(w:List Int)(A:Ar)(l3:List Int)(n4 n5:Int):List AFrame×Zaa:=(Zjd w A l3 n4 n5,Zh4 w A l3 n4 n5)
def ZKQ(A:Ar)(K:KT)(F:FT)(w:List Int)(h:Int):Prop:=rB [A.inR .i64 (A.add h 1),decide (okw (A.sub3 w 0 15)=true∧hfB h=true),Nat.ble 15 (A.len w),Nat.blt 0 (A.len [0,0,0,0,0,0,0,0,0,0,0,0,0,0,0]),Nat.blt 0 (A.len w)] (K (Zhn (w) (h) (A) (A.add h 1) (syL (A.sub3 w 0 15) (Nat.mul 2 (Int.toNat h))) (0)))
theorem ZLb{A:Ar}{K:KT}{F:FT}{M:MT}{w:List Int}{h:Int} :Zaj A tab Kj 90 K F M (.run 24 (.hd)) (ZQm w h) []=ZKQ A K F w h:=by kernel_rfl
def Zdg(A:Ar)(K:KT)(F:FT)(w:List Int)(h n0:Int)(l1:List Int)(n2:Int):Prop:=bB (A.lt n2 n0) (rB [decide (List.all l1 elB=true∧List.length l1≤6∧0≤n2∧n2≤ ↑(List.length l1))] (bB (A.not (poO l1 (Int.toNat n2))) (rB [A.inR .i64 (A.add n2 1)] (K (Zhn (w) (h) (A) (n0) (l1) (A.add n2 1)))) (rB [Nat.beq (A.len (fiV h (A.sub3 w 0 15) (ZkQ l1 (Int.toNat n2)))) 15,Nat.blt 0 (A.len [0,0,0,0,0,0,0,0,0,0,0,0,0,0,0]),decide (fiG (A.sub3 w 0 15) h (ZkQ l1 (Int.toNat n2))=true),Nat.ble 15 (A.len w)] (bB (fiO h (A.sub3 w 0 15) (ZkQ l1 (Int.toNat n2))) (K (ZhF (w) (A) (fiV h (A.sub3 w 0 15) (ZkQ l1 (Int.toNat n2))) (0) (0))) (rB [A.inR .i64 (A.add n2 1)] (K (Zhn (w) (h) (A) (n0) (l1) (A.add n2 1)))))))) (rB [Nat.beq (A.len [0,0,0,0,0,0,0,0,0,0,0,0,0,0,0]) 15] (rB [Zae (Zae (Nat.ble 15 (A.len [0,0,0,0,0,0,0,0,0,0,0,0,0,0,0])) true) true] (F (AV.tup [AV.agg (.ints .i64 (A.sub3 [0,0,0,0,0,0,0,0,0,0,0,0,0,0,0] 0 15)),AV.int .i64 0,AV.bool false]) (none))))
theorem ZlX{A:Ar}{K:KT}{F:FT}{M:MT}{w:List Int}{h n0:Int}{l1:List Int}{n2:Int} :Zaj A tab Kj 90 K F M (.run 6 (.tf (.run 26 (.tf (.run 7 (.hd)) (.run 19 (.tf (.run 12 (.hd)) (.run 8 (.hd)))))) (.run 9 (.fn)))) (Zju w h A n0 l1 n2) (Zhq w h A n0 l1 n2)=Zdg A K F w h n0 l1 n2:=by kernel_rfl
def Ze2(A:Ar)(K:KT)(F:FT)(w l3:List Int)(n4 n5:Int):Prop:=bB (A.lt n5 15) (rB [Nat.blt (0+A.nat n5) (A.len l3),Zae (A.le 0 n5) (A.lt n5 (A.int 15)),Nat.blt (0+A.nat n5) (A.len w),Zae (A.le 0 n5) (A.lt n5 (A.int 15))] (bB (A.not (A.eq (A.nth w (0+A.nat n5)) (A.nth l3 (0+A.nat n5)))) (rB [A.inR .i64 (A.add n5 1),A.inR .i64 (A.add n4 1)] (K (ZhF (w) (A) (l3) (A.add n4 1) (A.add n5 1)))) (rB [A.inR .i64 (A.add n5 1)] (K (ZhF (w) (A) (l3) (n4) (A.add n5 1)))))) (rB [Nat.beq (A.len (A.sub3 l3 0 15)) 15,Nat.ble 15 (A.len l3)] (rB [Zae (Zae (Nat.ble 15 (A.len (A.sub3 l3 0 15))) true) true] (F (AV.tup [AV.agg (.ints .i64 (A.sub3 (A.sub3 l3 0 15) 0 15)),AV.int .i64 n4,AV.bool true]) (none))))
theorem ZlJ{A:Ar}{K:KT}{F:FT}{M:MT}{w l3:List Int}{n4 n5:Int} :Zaj A tab Kj 90 K F M (.run 6 (.tf (.run 11 (.tf (.run 12 (.hd)) (.run 8 (.hd)))) (.run 10 (.fn)))) (Zjd w A l3 n4 n5) (Zh4 w A l3 n4 n5)=Ze2 A K F w l3 n4 n5:=by kernel_rfl
end Go.Proofs.Ytklbmkllepkjcaa
/- Contracts as a list. No condition. -/
namespace Go.Proofs.Ytklbmkllepkjcaa
def deR(h:Int)(w:List Int):Nat→Nat→Option (List Int)
 |0,_=>none
 |k+1,u=>if poO (syL w (2*h.toNat)) u=true∧fiO h w (ZkQ (syL w (2*h.toNat)) u)=true then some (fiV h w (ZkQ (syL w (2*h.toNat)) u))else deR h w k (u+1)
def deA:Option (List Int)→List Int→AV
 |none,_=>.tup [.agg (.ints .i64 (List.replicate 15 0)), .int .i64 0, .bool false]
 |some x,w=>.tup [.agg (.ints .i64 x), .int .i64 (Zbd w x), .bool true]
@[irreducible] def deO (h:Int) (w:List Int):Option (List Int):=deR h w (h.toNat+1) 0
@[irreducible] def deV (h:Int) (w:List Int):List Int:=(deO h w).getD (List.replicate 15 0)
@[irreducible] def deN (h:Int) (w:List Int):Int:=match deO h w with
 |none=>0
 |some x=>Zbd w x
theorem ZIX(h:Int)(w:List Int):deA (deO h w) w=.tup [.agg (.ints .i64 (deV h w)), .int .i64 (deN h w), .bool (deO h w).isSome]:=by
 unfold deV deN
 cases deO h w<;>rfl
theorem ZBc{w:List Int}(h:ZaP w 0 15=0)(n:Nat):(syL w n).all elB=true:=by
 unfold syL
 refine List.all_eq_true.2 fun x hx=>?_
 obtain⟨i,_,rfl⟩:=List.mem_map.1 hx
 exact ZHz h (i+1)
theorem ZHY(c:List Nat):∀(n:Nat) (p:Int),n≤15→p<0→erP p (poX c n)=0∧∀x∈poX c n,x<n:=by
 have key:∀(l:List Int) (p:Int) (x:Int),erP p l=0→(∀y∈l,y<x)→p<x→0≤x∧x≤14→erP p (l++[x])=0:=by
  intro l
  induction l with
  |nil=>
   intro p x _ _ h1 h2
   rw[List.nil_append,erP,if_pos (show Zal x 0 14=true from decide_eq_true h2),if_pos h1];rfl
  |cons y l ih=>
   intro p x h0 h1 h2 h3
   rw[erP]at h0
   split at h0
   ·rename_i hw
    split at h0
    ·rename_i hp
     rw[List.cons_append,erP,if_pos hw,if_pos hp]
     exact ih y x h0 (fun z hz=>h1 z (List.mem_cons_of_mem _ hz)) (h1 y List.mem_cons_self) h3
    ·cases h0
   ·cases h0
 intro n
 induction n with
 |zero=>intro p _ _;exact⟨by simp[poX,erP],by simp[poX]⟩
 |succ n ih=>
  intro p hn hp
  obtain⟨a,b⟩:=ih p (by omega) hp
  rw[Znf]
  split
  ·refine⟨key _ _ _ a b (by omega) (by omega),fun x hx=>?_⟩
   rcases List.mem_append.1 hx with h |h
   ·have:=b x h;omega
   ·have:=List.mem_singleton.1 h;omega
  ·exact⟨a,fun x hx=>by have:=b x hx;omega⟩
theorem ZCx{h:Int}{w:List Int}{u:Nat}(hw:okw w=true)(hh:hfB h=true)(hu:u≤2*h.toNat)(ho:poO (syL w (2*h.toNat)) u=true):fiG w h (ZkQ (syL w (2*h.toNat)) u)=true:=by
 unfold poO at ho
 unfold ZkQ
 split at ho
 ·cases ho
 ·rename_i c hc
  have hl:=of_decide_eq_true ho
  have h2:=of_decide_eq_true hh
  unfold fiG
  rw[Bool.and_eq_true,Bool.and_eq_true]
  refine⟨hw,hh,decide_eq_true ?_⟩
  unfold erE
  rw[if_neg (by omega)]
  exact(ZHY c 15 (-1) (by omega) (by omega)).1
section
variable {C:Ctx}(hC:C.P=Try.prog)(w:List Int)(h:Int)(hw:okw w=true)(hh:hfB h=true)
include hC hw
theorem ZMP(x:List Int)(hx:x.length=15):∀(c i:Nat) (n:Int),i+c=15→0≤n→n≤i→n+Zbd (w.drop i) (x.drop i)=Zbd w x→Ev C (Zjd w std x n i) (Zh4 w std x n i) (ZaI 90 (deA (some x) w) none):=by
 obtain⟨w1,w2⟩:=okw_iff.1 hw
 intro c
 induction c with
 |zero=>
  intro i n hc h0 hn he
  have:i=15:=by omega
  subst this
  rw[List.drop_of_length_le (by omega)]at he
  have he:n=Zbd w x:=by simpa[Zbd]using he
  subst he
  have e1:=Zgu hx
  refine tgo hC ZsN ZlJ ?_
  simp only[Ze2,e1]
  simp[-List.getD_eq_getElem?_getD,hx,deA]
 |succ c ih=>
  intro i n hc h0 hn he
  rw[Zfk (by omega),Zfk (show i<x.length by omega),Zbd]at he
  refine tgo hC ZsN ZlJ ?_
  by_cases hq:w.getD i 0=x.getD i 0
  ·have i0:=ih (i+1) n (by omega) h0 (by omega) (by rw[if_pos hq]at he;omega)
   simp[-List.getD_eq_getElem?_getD,Ze2,hx,w1,hq,show(i:Int)<15 by omega,show i<15 by omega]at i0⊢
   exact⟨by omega,i0⟩
  ·have i0:=ih (i+1) (n+1) (by omega) (by omega) (by omega) (by rw[if_neg hq]at he;omega)
   simp[-List.getD_eq_getElem?_getD,Ze2,hx,w1,hq,show(i:Int)<15 by omega,show i<15 by omega]at i0⊢
   exact⟨by omega,i0⟩
theorem ZMA(hh:hfB h=true):∀(c u:Nat),(u:Int)+c=h+1→Ev C (Zju w h std (h+1) (syL w (2*h.toNat)) u) (Zhq w h std (h+1) (syL w (2*h.toNat)) u) (ZaI 90 (deA (deR h w c u) w) none):=by
 obtain⟨w1,w2⟩:=okw_iff.1 hw
 have h2:=of_decide_eq_true hh
 have e1:=Zgu w1
 intro c
 induction c with
 |zero=>
  intro u hc
  refine tgo hC ZsN ZlX ?_
  simp[-List.getD_eq_getElem?_getD,Zdg,show ¬(u:Int)<h+1 by omega,deR,deA]
 |succ c ih=>
  intro u hc
  have i0:=ih (u+1) (by omega)
  have sl:=Zjs w (2*h.toNat)
  have sg:(syL w (2*h.toNat)).all elB=true∧(syL w (2*h.toNat)).length≤6∧0≤(u:Int)∧(u:Int)≤((syL w (2*h.toNat)).length:Int):=⟨ZBc w2 _,by omega,by omega,by omega⟩
  have hlt:(u:Int)<h+1:=by omega
  refine tgo hC ZsN ZlX ?_
  rw[deR]
  generalize hs:syL w (2*h.toNat)=s at*
  cases ho:poO s u with
  |false=>
   simp only[Zdg,Int.toNat_natCast,ho,e1]
   simp[-List.getD_eq_getElem?_getD,hlt]at i0⊢
   exact⟨by simpa using sg,by omega,i0⟩
  |true=>
   have hg:=ZCx (u:=u) hw hh (by omega) (by rw[hs];exact ho)
   rw[hs]at hg
   have vl:=Zwy (h:=h) (e:=ZkQ s u) w1
   cases hf:fiO h w (ZkQ s u)with
   |false=>
    simp only[Zdg,Int.toNat_natCast,ho,e1,hf]
    simp[-List.getD_eq_getElem?_getD,hlt,hg,vl,w1]at i0⊢
    exact⟨by simpa using sg,by omega,i0⟩
   |true=>
    have i1:=ZMP hC w hw (fiV h w (ZkQ s u)) vl 15 0 0 (by omega) (by omega) (by omega) (by simp)
    simp only[Zdg,Int.toNat_natCast,ho,e1,hf]
    simp[-List.getD_eq_getElem?_getD,hlt,hg,vl,w1]at i1⊢
    exact⟨by simpa using sg,i1⟩
end
theorem ZxX(w:List Int)(h:Int)(hw:okw w=true)(hh:hfB h=true):Zai Try.prog 90 [.agg (.ints .i64 w), .int .i64 h] (.tup [.agg (.ints .i64 (deV h w)), .int .i64 (deN h w), .bool (deO h w).isSome]) none:=by
 obtain⟨w1,w2⟩:=okw_iff.1 hw
 have h2:=of_decide_eq_true hh
 rw[←ZIX]
 refine start (ZEJ w h) fun C hC=>tgo hC ZsN ZLb ?_
 have i:=ZMA hC w h hw hh (h.toNat+1) 0 (by omega)
 have e1:=Zgu w1
 unfold deO
 simp only[ZKQ,e1]
 simp[-List.getD_eq_getElem?_getD,w1,hw,hh]at i⊢
 exact⟨by omega,i⟩
def k90:Ctr:=⟨90,0,fun _ a=>match a with |[.agg (.ints .i64 w), .int .i64 h]=>some (decide (okw w=true∧hfB h=true), .tup [.agg (.ints .i64 (deV h w)), .int .i64 (deN h w), .bool (deO h w).isSome],none) |_=>none⟩
theorem ZHJ:k90.OK Try.prog:=fun pa args r fr h=>by
 simp only[k90]at h
 split at h
 ·simp only[Option.some.injEq,Prod.mk.injEq,decide_eq_true_eq]at h
  obtain⟨h0,rfl,rfl⟩:=h
  exact ZxX _ _ h0.1 h0.2
 ·cases h
def Kk:List Ctr:=[k90]++Kj
theorem ZGZ:Zay Try.prog Kk:=⟨ZHJ,ZsN⟩
end Go.Proofs.Ytklbmkllepkjcaa
/- The bound of the Zu0 is a letter. No condition. -/
namespace Go.Proofs.Ytklbmkllepkjcaa
def Zbl:Nat→Nat→List (List Int)
 |0,_=>[[]]
 |z+1,f=>(List.range (15-f)).flatMap fun i=>(Zbl z (f+i+1)).map fun l=>((f+i:Nat):Int)::l
def ZsK(f z:Int):List AV:=(Zbl z.toNat f.toNat).map fun l=>.list (.ints .i64 l)
attribute [irreducible] ZsK
def seB(N:Nat)(f z:Int):Bool:=decide (0≤f∧f≤15∧0≤z∧z<N)
def k93(N:Nat):Ctr:=⟨93,0,fun _ a=>match a with |[.int .i64 f, .int .i64 z]=>some (seB N f z, .list (.big (.ints .i64) (ZsK f z)),none) |_=>none⟩
def Kn(N:Nat):List Ctr:=k93 N::Kk
end Go.Proofs.Ytklbmkllepkjcaa
/- Paths of functions, printed by the explorer (Gx). No condition. -/
namespace Go.Proofs.Ytklbmkllepkjcaa
set_option maxRecDepth 100000
set_option linter.unusedVariables false
def ZHj(f z:Int):AFrame:={ fn:=93,N:=39,env:=[(0,AV.int .i64 f),(1,AV.int .i64 z)],todo:=[.code a93.code],defs:=[],rnd:=none,ret:=false,res:=[ARes.tmp 4] }
def ZPY(f z:Int):List AFrame:=[(ZHj f z)]
theorem ZuX(f z:Int):Zaq tab 93 [AV.int .i64 f,AV.int .i64 z]=some (ZHj f z):=rfl
def Zgn(z n0:Int)(l1:List Nat)(l2:List (List Int)):List AFrame:=[{ fn:=93,N:=39,env:=[(1,AV.int .i64 z),(5,AV.row 93038 0),(6,AV.int .i64 n0)],todo:=.code (ACode.gh [] ZJ5)::ZLD,defs:=[],rnd:=none,ret:=false,res:=[ARes.tmp 4] }]
def ZeM(z n0:Int)(l1:List Nat)(l2:List (List Int)):Zaa:=[(93038,{ base:=0,blks:=[Blk.row 25 1 (Row.refs 1000093 l1)] }),(1000093,{ base:=0,blks:=[],sym:=Sym.ints 3 1 .i64 l2 })]
abbrev Zl2(z n0:Int)(l1:List Nat)(l2:List (List Int)):List AFrame×Zaa:=(Zgn z n0 l1 l2,ZeM z n0 l1 l2)
def ZjV(z n0:Int)(x3:List AV)(n4:Int)(l5:List Nat)(l6:List (List Int)):List AFrame:=[{ fn:=93,N:=39,env:=[(1,AV.int .i64 z),(5,AV.row 93038 0),(6,AV.int .i64 n0),(7,AV.list (Row.big (.ints .i64) x3)),(8,AV.int .i64 n4)],todo:=.code (ACode.gh [] ZI8)::ZNA,defs:=[],rnd:=none,ret:=false,res:=[ARes.tmp 4] }]
def Zg7(z n0:Int)(x3:List AV)(n4:Int)(l5:List Nat)(l6:List (List Int)):Zaa:=[(93038,{ base:=0,blks:=[Blk.row 25 1 (Row.refs 1000093 l5)] }),(1000093,{ base:=0,blks:=[],sym:=Sym.ints 3 1 .i64 l6 })]
abbrev Zmd(z n0:Int)(x3:List AV)(n4:Int)(l5:List Nat)(l6:List (List Int)):List AFrame×Zaa:=(ZjV z n0 x3 n4 l5 l6,Zg7 z n0 x3 n4 l5 l6)
def ZBW(A:Ar)(K:KT)(F:FT)(f z:Int):Prop:=bB (A.eq z 0) (rB [List.all [AV.nils] fun x=>AV.bx x&&Nat.beq (Zag A x) 1] (F (AV.row 0 0) (some { e:=25,sz:=1,r:=Row.gen [AV.nils] }))) (K (Zl2 (z) (f) ([]) ([])))
theorem ZFN{N:Nat}{A:Ar}{K:KT}{F:FT}{M:MT}{f z:Int} :Zaj A tab (Kn N) 93 K F M (.run 11 (.tf (.run 6 (.fn)) (.run 15 (.hd)))) (ZPY f z) []=ZBW A K F f z:=by kernel_rfl
def ZhX(N:Nat)(A:Ar)(K:KT)(F:FT)(z n0:Int)(l1:List Nat)(l2:List (List Int)):Prop:=bB (A.lt n0 15) (rB [seB N (A.add n0 1) (A.sub z 1),A.inR .i64 (A.sub z 1),A.inR .i64 (A.add n0 1)] (K (Zmd (z) (n0) (ZsK (A.add n0 1) (A.sub z 1)) (0) (l1) (l2)))) (F (AV.list (Row.gen (List.map (fun j=>AV.list (.ints .i64 (List.getD l2 j []))) l1))) (none))
theorem Zl0{N:Nat}{A:Ar}{K:KT}{F:FT}{M:MT}{z n0:Int}{l1:List Nat}{l2:List (List Int)} :Zaj A tab (Kn N) 93 K F M (.run 7 (.tf (.run 19 (.hd)) (.run 7 (.fn)))) (Zgn z n0 l1 l2) (ZeM z n0 l1 l2)=ZhX N A K F z n0 l1 l2:=by kernel_rfl
def ZhW(A:Ar)(K:KT)(F:FT)(z n0:Int)(x3:List AV)(n4:Int)(l5:List Nat)(l6:List (List Int)):Prop:=bB (A.lt n4 (A.int (A.lenA x3))) (rB [A.inR .i64 (A.add n4 1),Nat.ble (A.lenF l5+A.lenF [0+List.length (List.map (fun l=>Blk.row 3 1 (.ints .i64 l)) l6)]) 4294967296,List.all [AV.row 1000093 (0+List.length (List.map (fun l=>Blk.row 3 1 (.ints .i64 l)) l6))] fun x=>AV.bx x&&Nat.beq (Zag A x) 1,Nat.ble (A.len [n0]+A.len (AV.toIs (A.nthA x3 (A.nat n4)))) 4294967296,Zae (Zae (A.le 0 n4) (Nat.blt (A.nat n4) (A.lenA x3))) true,List.all [AV.int .i64 n0] fun x=>AV.bx x&&Nat.beq (Zag A x) 1] (K (Zmd (z) (n0) (x3) (A.add n4 1) (A.appF l5 [0+List.length (List.map (fun l=>Blk.row 3 1 (.ints .i64 l)) l6)]) (List.append l6 [A.app [n0] (AV.toIs (A.nthA x3 (A.nat n4)))])))) (rB [A.inR .i64 (A.add n0 1)] (K (Zl2 (z) (A.add n0 1) (l5) (l6))))
theorem ZlB{N:Nat}{A:Ar}{K:KT}{F:FT}{M:MT}{z n0:Int}{x3:List AV}{n4:Int}{l5:List Nat}{l6:List (List Int)} :Zaj A tab (Kn N) 93 K F M (.run 9 (.tf (.run 24 (.hd)) (.run 9 (.hd)))) (ZjV z n0 x3 n4 l5 l6) (Zg7 z n0 x3 n4 l5 l6)=ZhW A K F z n0 x3 n4 l5 l6:=by kernel_rfl
end Go.Proofs.Ytklbmkllepkjcaa
/- All sets of positions. No condition. -/
namespace Go.Proofs.Ytklbmkllepkjcaa
theorem ZxM(L:List (List Int)):((List.range L.length).map fun j=>AV.list (.ints .i64 (L.getD j [])))=L.map fun l=>AV.list (.ints .i64 l):=by
 apply List.ext_getElem?
 intro i
 rw[List.getElem?_map,List.getElem?_map]
 by_cases hi:i<L.length
 ·rw[List.getElem?_range hi,List.getElem?_eq_getElem hi,Option.map_some,Option.map_some,List.getD_eq_getElem?_getD,List.getElem?_eq_getElem hi];rfl
 ·rw[List.getElem?_eq_none (by simp;omega),List.getElem?_eq_none (by omega)];rfl
def ZnZ(Z f n:Nat):List (List Int):=(List.range n).flatMap fun i=>(Zbl Z (f+i+1)).map fun l=>((f+i:Nat):Int)::l
theorem ZjB(Z f n:Nat):ZnZ Z f (n+1)=ZnZ Z f n++(Zbl Z (f+n+1)).map fun l=>((f+n:Nat):Int)::l:=by
 unfold ZnZ
 rw[List.range_succ,List.flatMap_append];simp
theorem ZzI(f z:Int):(ZsK f z).length=(Zbl z.toNat f.toNat).length:=by unfold ZsK;simp
theorem ZyE(f z:Int)(k:Nat):((ZsK f z).getD k .top).toIs=(Zbl z.toNat f.toNat).getD k []:=by
 unfold ZsK
 rw[List.getD_eq_getElem?_getD,List.getElem?_map,List.getD_eq_getElem?_getD]
 by_cases hk:k<(Zbl z.toNat f.toNat).length
 ·rw[List.getElem?_eq_getElem hk];rfl
 ·rw[List.getElem?_eq_none (by omega)];rfl
theorem Zqi:∀(Z f:Nat),(Zbl Z f).length≤15^Z∧∀l∈Zbl Z f,l.length=Z
 |0,_=>by simp[Zbl]
 |Z+1,f=>by
  have key:∀n,n≤15→(ZnZ Z f n).length≤n*15^Z∧∀l∈ZnZ Z f n,l.length=Z+1:=by
   intro n
   induction n with
   |zero=>intro _;simp[ZnZ]
   |succ n ih=>
    intro hn
    obtain⟨a,b⟩:=ih (by omega)
    obtain⟨c,d⟩:=Zqi Z (f+n+1)
    rw[ZjB]
    refine⟨by rw[List.length_append,List.length_map,Nat.add_mul];omega,fun l hl=>?_⟩
    rcases List.mem_append.1 hl with h |h
    ·exact b l h
    ·obtain⟨y,hy,rfl⟩:=List.mem_map.1 h
     rw[List.length_cons,d y hy]
  obtain⟨a,b⟩:=key (15-f) (by omega)
  have e:Zbl (Z+1) f=ZnZ Z f (15-f):=rfl
  rw[e]
  refine⟨Nat.le_trans a ?_,b⟩
  rw[Nat.pow_succ,Nat.mul_comm]
  exact Nat.mul_le_mul_left _ (by omega)
section
variable {C:Ctx}(hC:C.P=Try.prog)(N:Nat)(hK:Zay Try.prog (Kn N))
include hC hK
theorem ZNk(Z i:Nat)(hZ:Z≤2)(hi:i<15)(L:List (List Int))(hL:L.length≤100000)(r:AV)
 (hn:Ev C (Zgn ((Z+1:Nat):Int) ((i+1:Nat):Int) (List.range (L++(Zbl Z (i+1)).map fun l=>((i:Nat):Int)::l).length) (L++(Zbl Z (i+1)).map fun l=>((i:Nat):Int)::l)) (ZeM ((Z+1:Nat):Int) ((i+1:Nat):Int) (List.range (L++(Zbl Z (i+1)).map fun l=>((i:Nat):Int)::l).length) (L++(Zbl Z (i+1)).map fun l=>((i:Nat):Int)::l)) (ZaI 93 r none)):
 ∀(c k:Nat),k+c=(Zbl Z (i+1)).length→Ev C (ZjV ((Z+1:Nat):Int) i (ZsK ((i:Int)+1) (Z:Int)) k (List.range (L++((Zbl Z (i+1)).take k).map fun l=>((i:Nat):Int)::l).length) (L++((Zbl Z (i+1)).take k).map fun l=>((i:Nat):Int)::l)) (Zg7 ((Z+1:Nat):Int) i (ZsK ((i:Int)+1) (Z:Int)) k (List.range (L++((Zbl Z (i+1)).take k).map fun l=>((i:Nat):Int)::l).length) (L++((Zbl Z (i+1)).take k).map fun l=>((i:Nat):Int)::l)) (ZaI 93 r none):=by
 have sv:=ZzI ((i:Int)+1) (Z:Int)
 rw[Int.toNat_natCast,show((i:Int)+1).toNat=i+1 by omega]at sv
 obtain⟨s1,s2⟩:=Zqi Z (i+1)
 have hp:15^Z≤15^2:=Nat.pow_le_pow_right (by omega) hZ
 intro c
 induction c with
 |zero=>
  intro k hk
  refine tgo hC hK ZlB ?_
  rw[List.take_of_length_le (by omega)]
  generalize (L++(Zbl Z (i+1)).map fun l=>((i:Nat):Int)::l)=M at hn⊢
  simp[-List.getD_eq_getElem?_getD,ZhW,sv,show ¬(k:Int)<((Zbl Z (i+1)).length:Int) by omega]at hn⊢
  exact⟨by omega,hn⟩
 |succ c ih=>
  intro k hk
  have hlt:k<(Zbl Z (i+1)).length:=by omega
  have i0:=ih (k+1) (by omega)
  have g:=ZyE ((i:Int)+1) (Z:Int) k
  rw[Int.toNat_natCast,show((i:Int)+1).toNat=i+1 by omega]at g
  have tl:(Zbl Z (i+1)).take (k+1)=(Zbl Z (i+1)).take k++[(Zbl Z (i+1)).getD k []]:=Zot hlt
  rw[tl,List.map_append,←List.append_assoc]at i0
  have ml:(L++((Zbl Z (i+1)).take k).map fun l=>((i:Nat):Int)::l).length≤200000:=by
   rw[List.length_append,List.length_map,List.length_take];omega
  have gl:((Zbl Z (i+1)).getD k []).length=Z:=s2 _ (Zbq hlt)
  generalize (L++((Zbl Z (i+1)).take k).map fun l=>((i:Nat):Int)::l)=M at i0 ml⊢
  rw[List.length_append,List.map_cons,List.map_nil,List.length_singleton,List.range_succ]at i0
  refine tgo hC hK ZlB ?_
  simp only[ZhW,ZKM,ZaX,Int.toNat_natCast,g]
  simp[-List.getD_eq_getElem?_getD,sv,hlt,gl,AV.bx,Zag,show(k:Int)<((Zbl Z (i+1)).length:Int) by omega]at i0⊢
  exact⟨by omega,i0⟩
theorem ZLC(Z f:Nat)(hZ:Z≤2)(hN:Z<N):∀(c n:Nat),f+n+c=15→Ev C (Zgn ((Z+1:Nat):Int) ((f+n:Nat):Int) (List.range (ZnZ Z f n).length) (ZnZ Z f n)) (ZeM ((Z+1:Nat):Int) ((f+n:Nat):Int) (List.range (ZnZ Z f n).length) (ZnZ Z f n)) (ZaI 93 (.list (.gen ((Zbl (Z+1) f).map fun l=>.list (.ints .i64 l)))) none):=by
 intro c
 induction c with
 |zero=>
  intro n hc
  refine tgo hC hK Zl0 ?_
  have e:Zbl (Z+1) f=ZnZ Z f n:=by rw[show n=15-f by omega];rfl
  rw[e]
  simp only[ZhX,ZxM]
  simp[-List.getD_eq_getElem?_getD,show ¬((f:Int)+(n:Int))<15 by omega]
 |succ c ih=>
  intro n hc
  have i0:=ih (n+1) (by omega)
  rw[ZjB,show f+(n+1)=f+n+1 by omega]at i0
  have pl:(ZnZ Z f n).length≤100000:=by
   have key:∀n,n≤15→(ZnZ Z f n).length≤n*225:=by
    intro n
    induction n with
    |zero=>intro _;simp[ZnZ]
    |succ n ih2=>
     intro hn
     have a:=ih2 (by omega)
     obtain⟨c,_⟩:=Zqi Z (f+n+1)
     have hp:15^Z≤15^2:=Nat.pow_le_pow_right (by omega) hZ
     rw[ZjB,List.length_append,List.length_map,Nat.add_mul];omega
   have:=key n (by omega)
   omega
  have i1:=ZNk hC N hK Z (f+n) hZ (by omega) (ZnZ Z f n) pl _ i0 (Zbl Z (f+n+1)).length 0 (by omega)
  have sb:seB N (((f+n:Nat):Int)+1) (((Z+1:Nat):Int)-1)=true:=decide_eq_true (by omega)
  have z1:((Z+1:Nat):Int)-1=((Z:Nat):Int):=by omega
  have hlt:((f+n:Nat):Int)<15:=by omega
  rw[z1]at sb
  refine tgo hC hK Zl0 ?_
  simp only[ZhX,Zgd,Zp2,z1,sb,ZBU,decide_eq_true hlt,ZDx,ZDh,if_true]
  simp only[List.take_zero,List.map_nil,List.append_nil]at i1
  exact⟨by simp;omega,i1⟩
end
theorem ZtO{f:FuncId}{args:List AV}{e sz:Nat}{r r':Row}(h:Zai Try.prog f args (.row 0 0) (some ⟨e,sz+1,r⟩))(hp:r.pure=true)(hs:r.solid=true)(hw:∀ {w:World} {ok:Nat→Prop} {hh:Zaa} {L:Lay} {x:Value},Rel w ok hh L (.list r) x→Rel w ok hh L (.list r') x):Zai Try.prog f args (.list r') none:=by
 intro w okA L vs hargs hok hG
 refine(h w okA L vs hargs hok hG).mono ?_
 rintro e' w' ⟨x,L',rfl,hb,hpo⟩
 refine⟨x,L',rfl,hb,?_⟩
 obtain⟨H,hr⟩:HRel (Ctx.of Try.prog w okA []) (Zat (some ⟨e,sz+1,r⟩)) L' w'∧Zau (Ctx.of Try.prog w okA []) (Zat (some ⟨e,sz+1,r⟩)) L' w' (.row 0 0) x:=hpo
 show HRel (Ctx.of Try.prog w okA []) (Zat none) L' w'∧Zau (Ctx.of Try.prog w okA []) (Zat none) L' w' (.list r') x
 refine⟨H.nil,?_⟩
 have q:=Zgp H (Frz1.row _ rfl hp hs) hr
 exact hw (q.okmono (fun g _ ho=>ho.elim (fun y=>y.2.elim) (fun y=>.inr y)))
theorem ZCK{w:World}{ok:Nat→Prop}{hh:Zaa}{L:Lay}{x:Value}(hr:Rel w ok hh L (.list (.gen [.nils])) x):Rel w ok hh L (.list (.big (.ints .i64) [.list (.ints .i64 [])])) x:=by
 cases hr with
 |nil _ a c h0=>cases h0
 |list _ xs hx ad n cap sz cs hb hok hn hcap hsz hl h1 hc hp hrr=>
  subst hx
  refine .list _ [.list (.ints .i64 [])] rfl ad n cap sz cs hb hok hn hcap (fun z hz=>?_) (hl.trans rfl) h1 hc rfl (fun j u v hu hv=>?_)
  ·have:=hsz .nils (by simp[Row.elems])
   have hz:z=.list (.ints .i64 []):=by simpa using hz
   subst hz;exact this
  ·cases j with
   |zero=>
    have hq:=hrr 0 .nils v rfl hv
    have hu:AV.list (.ints .i64 [])=u:=by simpa[Zaf,AV.flat]using hu
    subst hu
    cases hq with
    |nils=>exact .nil _ none 0 rfl
   |succ j=>simp[Zaf,AV.flat]at hu
theorem Zuv(f:Int):ZsK f 0=[.list (.ints .i64 [])]:=by unfold ZsK;rfl
theorem ZzM(N:Nat)(hK:Zay Try.prog (Kn N))(f z:Int)(h:seB (N+1) f z=true)(h3:z≤3):Zai Try.prog 93 [.int .i64 f, .int .i64 z] (.list (.big (.ints .i64) (ZsK f z))) none:=by
 have h:=of_decide_eq_true h
 by_cases hz:z=0
 ·subst hz
  rw[Zuv]
  refine ZtO (r:=.gen [.nils]) (e:=25) (sz:=0) ?_ rfl rfl ZCK
  exact start (ZuX f 0) fun C hC=>tgo hC hK ZFN (by simp[ZBW,AV.bx,Zag])
 ·obtain⟨Z,hZ⟩:∃Z:Nat,z=((Z+1:Nat):Int):=⟨z.toNat-1,by omega⟩
  obtain⟨F,rfl⟩:=Int.eq_ofNat_of_zero_le h.1
  subst hZ
  have q:Zai Try.prog 93 [.int .i64 (F:Int), .int .i64 ((Z+1:Nat):Int)] (.list (.gen ((Zbl (Z+1) F).map fun l=>.list (.ints .i64 l)))) none:=by
   refine start (ZuX _ _) fun C hC=>tgo hC hK ZFN ?_
   have i:=ZLC hC N hK Z F (by omega) (by omega) (15-F) 0 (by omega)
   simp[ZBW,ZnZ,show ¬((Z:Int)+1=0) by omega]at i⊢
   exact i
  refine ZuH q ?_
  unfold ZsK
  rw[Int.toNat_natCast,Int.toNat_natCast]
  simp only[Row.elems,List.map_map]
  exact List.map_congr_left fun _ _=>rfl
theorem Zz3:∀N:Nat,N≤4→(k93 N).OK Try.prog
 |0,_=>fun pa args r fr h=>by
  simp only[k93]at h
  split at h
  ·simp only[Option.some.injEq,Prod.mk.injEq]at h
   obtain⟨a,_⟩:=h
   have:=of_decide_eq_true a
   omega
  ·cases h
 |N+1,hN=>fun pa args r fr h=>by
  have ih:=Zz3 N (by omega)
  simp only[k93]at h
  split at h
  ·simp only[Option.some.injEq,Prod.mk.injEq]at h
   obtain⟨a,rfl,rfl⟩:=h
   have b:=of_decide_eq_true a
   exact ZzM N ⟨ih,ZGZ⟩ _ _ a (by omega)
  ·cases h
def Kl:List Ctr:=k93 4::Kk
theorem ZLy:Zay Try.prog Kl:=⟨Zz3 4 (Nat.le_refl _),ZGZ⟩
end Go.Proofs.Ytklbmkllepkjcaa
/- Contracts as a list. No condition. -/
namespace Go.Proofs.Ytklbmkllepkjcaa
section
variable {C:Ctx}(hC:C.P=Try.prog)(h:Int)(w:List Int)(hw:okw w=true)(hh:hfB h=true)
include hC hw hh
end
def Km:List Ctr:=Kl
theorem ZM5:Zay Try.prog Km:=ZLy
end Go.Proofs.Ytklbmkllepkjcaa
/- Paths of functions, printed by the explorer (Gx). No condition. -/
namespace Go.Proofs.Ytklbmkllepkjcaa
set_option maxRecDepth 100000
set_option linter.unusedVariables false
def ZKR(l:List Int)(r:Int):AFrame:={ fn:=97,N:=40,env:=[(0,AV.list (.ints .i64 l)),(1,AV.int .i64 r)],todo:=[.code a97.code],defs:=[],rnd:=none,ret:=false,res:=[ARes.tmp 4] }
def ZPH(l:List Int)(r:Int):List AFrame:=[(ZKR l r)]
theorem ZBP(l:List Int)(r:Int):Zaq tab 97 [AV.list (.ints .i64 l),AV.int .i64 r]=some (ZKR l r):=rfl
def ZgC(l:List Int)(r n0:Int)(l1:List Int):List AFrame:=[{ fn:=97,N:=40,env:=[(0,AV.list (.ints .i64 l)),(1,AV.int .i64 r),(5,AV.row 97038 0),(6,AV.int .i64 n0)],todo:=.code (ACode.gh [] ZJs)::ZNp,defs:=[],rnd:=none,ret:=false,res:=[ARes.tmp 4] }]
def Zfa(l:List Int)(r n0:Int)(l1:List Int):Zaa:=[(97038,{ base:=0,blks:=[Blk.row 3 1 (.ints .i64 l1)] })]
abbrev Zlx(l:List Int)(r n0:Int)(l1:List Int):List AFrame×Zaa:=(ZgC l r n0 l1,Zfa l r n0 l1)
def Zki(l:List Int)(r n0 n2:Int)(l3:List Int):List AFrame:=[{ fn:=97,N:=40,env:=[(0,AV.list (.ints .i64 l)),(1,AV.int .i64 r),(5,AV.row 97038 0),(6,AV.int .i64 n0),(20,AV.int .i64 r),(21,AV.int .i64 n2)],todo:=.code (ACode.gh [] ZFZ)::ZLI,defs:=[],rnd:=none,ret:=false,res:=[ARes.tmp 4] }]
def Zh6(l:List Int)(r n0 n2:Int)(l3:List Int):Zaa:=[(97038,{ base:=0,blks:=[Blk.row 3 1 (.ints .i64 l3)] })]
abbrev ZlL(l:List Int)(r n0 n2:Int)(l3:List Int):List AFrame×Zaa:=(Zki l r n0 n2 l3,Zh6 l r n0 n2 l3)
def ZKc(A:Ar)(K:KT)(F:FT)(l:List Int)(r:Int):Prop:=K (Zlx (l) (r) (0) ([]))
theorem ZLl{A:Ar}{K:KT}{F:FT}{M:MT}{l:List Int}{r:Int} :Zaj A tab N0 97 K F M (.run 17 (.hd)) (ZPH l r) []=ZKc A K F l r:=by kernel_rfl
def ZhL(A:Ar)(K:KT)(F:FT)(l:List Int)(r n0:Int)(l1:List Int):Prop:=bB (A.lt 0 r) (rB [Zae (A.not (A.eq r 0)) (A.inR .i64 (A.quo (A.int (A.len l)) r))] (bB (A.lt n0 (A.quo (A.int (A.len l)) r)) (K (ZlL (l) (r) (n0) (0) (l1))) (F (AV.row 0 0) (some { e:=3,sz:=1,r:=.ints .i64 l1 })))) (F (AV.row 0 0) (some { e:=3,sz:=1,r:=.ints .i64 l1 }))
theorem Zlr{A:Ar}{K:KT}{F:FT}{M:MT}{l:List Int}{r n0:Int}{l1:List Int} :Zaj A tab N0 97 K F M (.run 7 (.tf (.ty (.ty (.ty (.ty (.ty (.ty (.run 2 (.tf (.run 11 (.hd)) (.run 7 (.fn)))))))))) (.fy (.fy (.fy (.fy (.fy (.fy (.run 2 (.fy (.run 7 (.fn)))))))))))) (ZgC l r n0 l1) (Zfa l r n0 l1)=ZhL A K F l r n0 l1:=by kernel_rfl
def Zhd(A:Ar)(K:KT)(F:FT)(l:List Int)(r n0 n2:Int)(l3:List Int):Prop:=bB (A.lt n2 r) (rB [A.inR .i64 (A.add n2 1),Nat.ble (A.len l3+A.len [A.nth l (A.nat (A.add (A.mul n2 (A.quo (A.int (A.len l)) r)) n0))]) 4294967296,List.all [AV.int .i64 (A.nth l (A.nat (A.add (A.mul n2 (A.quo (A.int (A.len l)) r)) n0)))] fun x=>AV.bx x&&Nat.beq (Zag A x) 1,Zae (Zae (A.le 0 (A.add (A.mul n2 (A.quo (A.int (A.len l)) r)) n0)) (Nat.blt (A.nat (A.add (A.mul n2 (A.quo (A.int (A.len l)) r)) n0)) (A.len l))) true,A.inR .i64 (A.add (A.mul n2 (A.quo (A.int (A.len l)) r)) n0),A.inR .i64 (A.mul n2 (A.quo (A.int (A.len l)) r)),Zae (A.not (A.eq r 0)) (A.inR .i64 (A.quo (A.int (A.len l)) r))] (K (ZlL (l) (r) (n0) (A.add n2 1) (A.app l3 [A.nth l (A.nat (A.add (A.mul n2 (A.quo (A.int (A.len l)) r)) n0))])))) (rB [A.inR .i64 (A.add n0 1)] (K (Zlx (l) (r) (A.add n0 1) (l3))))
theorem ZlH{A:Ar}{K:KT}{F:FT}{M:MT}{l:List Int}{r n0 n2:Int}{l3:List Int} :Zaj A tab N0 97 K F M (.run 6 (.tf (.run 32 (.hd)) (.run 9 (.hd)))) (Zki l r n0 n2 l3) (Zh6 l r n0 n2 l3)=Zhd A K F l r n0 n2 l3:=by kernel_rfl
def ZGY(m p q h D:Int):AFrame:={ fn:=50,N:=21,env:=[(0,AV.agg (Row.gen [.int .i64 m, .int .i64 p, .int .i64 q, .int .i64 h, .int .i64 D]))],todo:=[.code a50.code],defs:=[],rnd:=none,ret:=false,res:=[ARes.tmp 2] }
def ZOC(m p q h D:Int):List AFrame:=[(ZGY m p q h D)]
theorem ZEm(m p q h D:Int):Zaq tab 50 [AV.agg (Row.gen [.int .i64 m, .int .i64 p, .int .i64 q, .int .i64 h, .int .i64 D])]=some (ZGY m p q h D):=rfl
def ZyK(A:Ar)(K:KT)(F:FT)(m p q h D:Int):Prop:=bB (A.not (A.eq (ZaB m p q) 0)) (F (AV.int .i64 (ZaB m p q)) (none)) (bB (A.not (A.eq (hfE h) 0)) (F (AV.int .i64 (hfE h)) (none)) (bB (A.not (Zal D 1 4)) (F (AV.int .i64 2) (none)) (F (AV.int .i64 0) (none))))
theorem ZMW{A:Ar}{K:KT}{F:FT}{M:MT}{m p q h D:Int} :Zaj A tab Kd 50 K F M (.run 18 (.tf (.run 6 (.fn)) (.run 14 (.tf (.run 6 (.fn)) (.run 9 (.tf (.run 5 (.fn)) (.run 6 (.fn)))))))) (ZOC m p q h D) []=ZyK A K F m p q h D:=by kernel_rfl
def ZJy(m p q h D:Int):AFrame:={ fn:=51,N:=15,env:=[(0,AV.agg (Row.gen [.int .i64 m, .int .i64 p, .int .i64 q, .int .i64 h, .int .i64 D]))],todo:=[.code a51.code],defs:=[],rnd:=none,ret:=false,res:=[ARes.tmp 2] }
def ZPZ(m p q h D:Int):List AFrame:=[(ZJy m p q h D)]
theorem ZB2(m p q h D:Int):Zaq tab 51 [AV.agg (Row.gen [.int .i64 m, .int .i64 p, .int .i64 q, .int .i64 h, .int .i64 D])]=some (ZJy m p q h D):=rfl
def ZH0(A:Ar)(K:KT)(F:FT)(m p q h D:Int):Prop:=rB [decide (List.length [ZaB m p q,hfE h,Zam (Zal D 1 4) 2]≤1000000),List.all [AV.int .i64 (ZaB m p q),AV.int .i64 (hfE h),AV.int .i64 (Zam (Zal D 1 4) 2)] fun x=>AV.bx x&&Nat.beq (Zag A x) 1] (F (AV.int .i64 (ZaD [ZaB m p q,hfE h,Zam (Zal D 1 4) 2])) (none))
theorem ZMa{A:Ar}{K:KT}{F:FT}{M:MT}{m p q h D:Int} :Zaj A tab Kd 51 K F M (.run 9 (.fn)) (ZPZ m p q h D) []=ZH0 A K F m p q h D:=by kernel_rfl
def ZIE(m p q h D:Int):AFrame:={ fn:=52,N:=10,env:=[(0,AV.agg (Row.gen [.int .i64 m, .int .i64 p, .int .i64 q, .int .i64 h, .int .i64 D]))],todo:=[.code a52.code],defs:=[],rnd:=none,ret:=false,res:=[ARes.tmp 2] }
def ZPK(m p q h D:Int):List AFrame:=[(ZIE m p q h D)]
theorem ZDu(m p q h D:Int):Zaq tab 52 [AV.agg (Row.gen [.int .i64 m, .int .i64 p, .int .i64 q, .int .i64 h, .int .i64 D])]=some (ZIE m p q h D):=rfl
def ZIc(A:Ar)(K:KT)(F:FT)(m p q h D:Int):Prop:=rB [A.inR .i64 (A.mul D (A.sub 15 (A.mul 2 h))),A.inR .i64 (A.sub 15 (A.mul 2 h)),A.inR .i64 (A.mul 2 h)] (F (AV.int .i64 (A.mul D (A.sub 15 (A.mul 2 h)))) (none))
theorem ZLk{A:Ar}{K:KT}{F:FT}{M:MT}{m p q h D:Int} :Zaj A tab Kd 52 K F M (.run 18 (.fn)) (ZPK m p q h D) []=ZIc A K F m p q h D:=by kernel_rfl
def ZJD(m p q h D:Int):AFrame:={ fn:=54,N:=12,env:=[(0,AV.agg (Row.gen [.int .i64 m, .int .i64 p, .int .i64 q, .int .i64 h, .int .i64 D]))],todo:=[.code a54.code],defs:=[],rnd:=none,ret:=false,res:=[ARes.tmp 2] }
def ZPt(m p q h D:Int):List AFrame:=[(ZJD m p q h D)]
theorem ZDm(m p q h D:Int):Zaq tab 54 [AV.agg (Row.gen [.int .i64 m, .int .i64 p, .int .i64 q, .int .i64 h, .int .i64 D])]=some (ZJD m p q h D):=rfl
def ZJK(A:Ar)(K:KT)(F:FT)(m p q h D:Int):Prop:=rB [A.inR .i64 (A.mul 2 (A.add (A.mul (A.mul 4 D) 15) m)),A.inR .i64 (A.add (A.mul (A.mul 4 D) 15) m),A.inR .i64 (A.mul (A.mul 4 D) 15),A.inR .i64 (A.mul 4 D)] (F (AV.int .i64 (A.mul 2 (A.add (A.mul (A.mul 4 D) 15) m))) (none))
theorem ZNr{A:Ar}{K:KT}{F:FT}{M:MT}{m p q h D:Int} :Zaj A tab Kd 54 K F M (.run 20 (.fn)) (ZPt m p q h D) []=ZJK A K F m p q h D:=by kernel_rfl
def ZKN(m p q:Int)(l:List Int):AFrame:={ fn:=80,N:=34,env:=[(0,AV.agg (Row.gen [.int .i64 m, .int .i64 p, .int .i64 q])),(1,AV.list (.ints .i64 l))],todo:=[.code a80.code],defs:=[],rnd:=none,ret:=false,res:=[ARes.tmp 4] }
def ZO6(m p q:Int)(l:List Int):List AFrame:=[(ZKN m p q l)]
theorem ZEK(m p q:Int)(l:List Int):Zaq tab 80 [AV.agg (Row.gen [.int .i64 m, .int .i64 p, .int .i64 q]),AV.list (.ints .i64 l)]=some (ZKN m p q l):=rfl
def ZjC(m p q n0:Int)(l1:List Int)(n2 n3:Int)(l4:List Int):List AFrame:=[{ fn:=80,N:=34,env:=[(2,AV.ptr 80003 0 0 0),(5,AV.row 80031 0),(6,AV.int .i64 n2),(15,AV.row 80016 0),(16,AV.int .i64 n0),(17,AV.int .i64 n3)],todo:=.code (ACode.gh [] ZJV)::ZLN,defs:=[],rnd:=none,ret:=false,res:=[ARes.tmp 4] }]
def Zic(m p q n0:Int)(l1:List Int)(n2 n3:Int)(l4:List Int):Zaa:=[(80003,{ base:=0,blks:=[Blk.row 24 3 (Row.gen [AV.agg (Row.gen [AV.int .i64 m,AV.int .i64 p,AV.int .i64 q])])] }),(80016,{ base:=0,blks:=[Blk.row 3 1 (.ints .i64 l1)] }),(80031,{ base:=0,blks:=[Blk.row 3 1 (.ints .i64 l4)] })]
abbrev Zln(m p q n0:Int)(l1:List Int)(n2 n3:Int)(l4:List Int):List AFrame×Zaa:=(ZjC m p q n0 l1 n2 n3 l4,Zic m p q n0 l1 n2 n3 l4)
def ZHh(A:Ar)(K:KT)(F:FT)(m p q:Int)(l:List Int):Prop:=rB [Zae (A.le 0 m) (Nat.ble (A.len l+A.nat m) 4294967296),decide (List.length l≤1000000)] (K (Zln (m) (p) (q) (A.int (A.len (A.app l (A.rep (A.nat m) 0)))) (A.app l (A.rep (A.nat m) 0)) (0) (0) ([])))
theorem ZMF{A:Ar}{K:KT}{F:FT}{M:MT}{m p q:Int}{l:List Int} :Zaj A tab Kd 80 K F M (.run 20 (.hd)) (ZO6 m p q l) []=ZHh A K F m p q l:=by kernel_rfl
def Zha(A:Ar)(K:KT)(F:FT)(m p q n0:Int)(l1:List Int)(n2 n3:Int)(l4:List Int):Prop:=bB (A.lt n3 n0) (rB [A.inR .i64 (A.add n3 1),Zae (Zae (Zae (Nat.ble 2 (A.len [oS m p n2 (A.nth l1 (A.nat n3)),oS m q n2 (A.nth l1 (A.nat n3))])) true) true) (Nat.ble (A.len l4+A.len (A.sub3 [oS m p n2 (A.nth l1 (A.nat n3)),oS m q n2 (A.nth l1 (A.nat n3))] 0 2)) 4294967296),Nat.beq (A.len [oS m p n2 (A.nth l1 (A.nat n3)),oS m q n2 (A.nth l1 (A.nat n3))]) 2,Nat.blt 0 (A.len [0,0]),decide (ZjQ m p q n2 (A.nth l1 (A.nat n3))=true),Zae (Nat.blt (A.nat n3) (A.len l1)) true,Zae (A.le 0 n3) (Nat.blt (A.nat n3) (A.len l1))] (K (Zln (m) (p) (q) (n0) (l1) (nxS m n2 (A.nth l1 (A.nat n3))) (A.add n3 1) (A.app l4 (A.sub3 [oS m p n2 (A.nth l1 (A.nat n3)),oS m q n2 (A.nth l1 (A.nat n3))] 0 2))))) (F (AV.row 0 0) (some { e:=3,sz:=1,r:=.ints .i64 l4 }))
theorem Zmn{A:Ar}{K:KT}{F:FT}{M:MT}{m p q n0:Int}{l1:List Int}{n2 n3:Int}{l4:List Int} :Zaj A tab Kd 80 K F M (.run 6 (.tf (.run 41 (.hd)) (.run 7 (.fn)))) (ZjC m p q n0 l1 n2 n3 l4) (Zic m p q n0 l1 n2 n3 l4)=Zha A K F m p q n0 l1 n2 n3 l4:=by kernel_rfl
end Go.Proofs.Ytklbmkllepkjcaa
/- Contracts as a list. No condition. -/
namespace Go.Proofs.Ytklbmkllepkjcaa
def tE(l:List Int)(R j:Nat):Int:=l.getD ((j%R)*(l.length/R)+j/R) 0
def tS(l:List Int)(R:Nat):List Int:=(List.range l.length).map (tE l R)
def tP(l:List Int)(R m:Nat):List Int:=(List.range m).map (tE l R)
theorem ZKL(l:List Int)(R m:Nat):(tP l R m).length=m:=by simp[tP]
theorem ZdW(l:List Int)(R:Nat):(tS l R).length=l.length:=by simp[tS]
theorem ZBS(l:List Int){R q c r:Nat}(hq:l.length/R=q)(hr:r<R):tP l R (c*R+r)++[l.getD (r*q+c) 0]=tP l R (c*R+(r+1)):=by
 rw[←Nat.add_assoc]
 unfold tP
 rw[List.range_succ,List.map_append]
 congr 1
 simp only[List.map_cons,List.map_nil,tE,hq]
 have h1:(c*R+r)%R=r:=by rw[Nat.mul_comm,Nat.mul_add_mod];exact Nat.mod_eq_of_lt hr
 have h2:(c*R+r)/R=c:=by rw[Nat.mul_comm,Nat.mul_add_div (by omega),Nat.div_eq_of_lt hr];rfl
 rw[h1,h2]
theorem ZA7{n q R r c:Nat}(h:q*R≤n)(hr:r<R)(hc:c<q):r*q+c<n:=by
 have:(r+1)*q≤R*q:=Nat.mul_le_mul_right q hr
 rw[Nat.add_mul,Nat.one_mul,Nat.mul_comm R q]at this;omega
theorem Zqx(n R:Nat):(n:Int).tdiv (R:Int)=((n/R:Nat):Int):=rfl
section
variable {C:Ctx}(hC:C.P=Try.prog){rr:AV}{ff:Option Fresh}
include hC
theorem ZQA(xs:List Int)(R q c:Nat)(hq:xs.length/R=q)(hql:q≤xs.length)(hlen:xs.length≤1000000)(hR:0<R∧R≤1000000)(hqR:q*R≤xs.length)(hc:c<q)
 (hk:Ev C (ZgC xs R (c+1:Nat) (tP xs R ((c+1)*R))) (Zfa xs R (c+1:Nat) (tP xs R ((c+1)*R))) (ZaI 97 rr ff)):∀(d r:Nat),R-r=d→r≤R→
 Ev C (Zki xs R c r (tP xs R (c*R+r))) (Zh6 xs R c r (tP xs R (c*R+r))) (ZaI 97 rr ff):=by
 intro d
 induction d with
 |zero=>
  intro r hd hr
  have:r=R:=by omega
  subst this
  rw[show c*r+r=(c+1)*r by rw[Nat.add_mul,Nat.one_mul]]
  refine tgo hC Zbz ZlH ?_
  simp[Zhd]at hk⊢
  exact⟨by omega,hk⟩
 |succ d ih=>
  intro r hd hr
  have hrl:r<R:=by omega
  have hx:=ZA7 hqR hrl hc
  have hlp:c*R+r<xs.length:=ZA7 (by rw[Nat.mul_comm];exact hqR) hc hrl
  have e0:(xs.length:Int).tdiv (R:Int)=(q:Int):=by rw[Zqx,hq]
  have this:=ih (r+1) (by omega) (by omega)
  rw[←ZBS xs hq hrl]at this
  obtain⟨m,hm⟩:∃m,r*q+c=m:=⟨_,rfl⟩
  obtain⟨m2,hm2⟩:∃m,r*q=m:=⟨_,rfl⟩
  have e2:((r:Int)*(q:Int))=(m2:Int):=by rw[←hm2];simp
  have e1:((m2:Int)+(c:Int))=(m:Int):=by rw[←hm,hm2];simp
  rw[hm]at hx this
  refine tgo hC Zbz ZlH ?_
  simp only[Zhd,ZMJ,Zbu,ZaX,Zgd,Zp5,ZvY,Zd7,ZbB,e0,e2,e1,Int.toNat_natCast]
  simp[-List.getD_eq_getElem?_getD,hrl,hx,ZKL,Zag,AV.bx]at this⊢
  exact⟨by omega,this⟩
theorem ZOY(xs:List Int)(R q:Nat)(hq:xs.length/R=q)(hql:q≤xs.length)(hlen:xs.length≤1000000)(hR:0<R∧R≤1000000)(hqR:q*R≤xs.length):∀(d c:Nat),q-c=d→c≤q→
 Ev C (ZgC xs R c (tP xs R (c*R))) (Zfa xs R c (tP xs R (c*R))) (ZaI 97 (.row 0 0) (some ⟨3,1, .ints .i64 (tP xs R (q*R))⟩)):=by
 have e0:(xs.length:Int).tdiv (R:Int)=(q:Int):=by rw[Zqx,hq]
 intro d
 induction d with
 |zero=>
  intro c hd hc
  have:c=q:=by omega
  subst this
  refine tgo hC Zbz Zlr ?_
  simp only[ZhL,ZvY,Zd7,ZbB,e0]
  simp[show 0<R by omega]
  omega
 |succ d ih=>
  intro c hd hc
  have i:=ZQA hC xs R q c hq hql hlen hR hqR (by omega) (ih (c+1) (by omega) (by omega)) R 0 (by omega) (by omega)
  refine tgo hC Zbz Zlr ?_
  simp only[ZhL,ZvY,Zd7,ZbB,e0]
  simp[show 0<R by omega,show c<q by omega]at i⊢
  exact⟨by omega,i⟩
end
def rcB(l:List Int)(r:Int):Bool:=decide (1≤r∧r≤400∧0<l.length∧l.length≤1000000∧l.length/r.toNat*r.toNat=l.length)
theorem ZMk{l:List Int}{r:Int}(h:rcB l r=true):∃R q:Nat,r=R∧1≤R∧R≤400∧0<q∧q≤l.length∧l.length≤1000000∧l.length/R=q∧q*R=l.length:=by
 have h:=of_decide_eq_true h
 obtain⟨R,rfl⟩:=Int.eq_ofNat_of_zero_le (show 0≤r by omega)
 have h5:l.length/R*R=l.length:=h.2.2.2.2
 refine⟨R,l.length/R,rfl,by omega,by omega,?_,Nat.div_le_self _ _,h.2.2.2.1,rfl,h5⟩
 rcases Nat.eq_zero_or_pos (l.length/R)with e |e
 ·rw[e]at h5;omega
 ·exact e
theorem Zvk(l:List Int)(r:Int)(h:rcB l r=true):Zai Try.prog 97 [.list (.ints .i64 l), .int .i64 r] (.row 0 0) (some ⟨3,1, .ints .i64 (tS l r.toNat)⟩):=by
 obtain⟨R,q,rfl,h1,h2,h3,h4,h5,h6,h7⟩:=ZMk h
 refine start (ZBP l R) fun C hC=>tgo hC Zbz ZLl ?_
 have i:=ZOY hC l R q h6 h4 h5 ⟨h1,by omega⟩ (Nat.le_of_eq h7) q 0 (by omega) (by omega)
 have e:tS l R=tP l R (q*R):=by unfold tS tP;rw[h7]
 simp only[ZKc,Int.toNat_natCast,e]
 simp[tP]at i⊢
 exact i
def nbI:List Int→Int→Int
 |[],n=>n
 |b::l,n=>nbI l (2*n+b)
def b4L(n:Int):List Int:=[n.tdiv 2 |>.tdiv 2 |>.tdiv 2 |>.tmod 2,n.tdiv 2 |>.tdiv 2 |>.tmod 2,n.tdiv 2 |>.tmod 2,n.tmod 2]
def lkE(m p q h D:Int):Int:=ZaD [ZaB m p q,hfE h,Zam (Zal D 1 4) 2]
theorem ZxT(m p q h D:Int):Zai Try.prog 51 [.agg (.gen [.int .i64 m, .int .i64 p, .int .i64 q, .int .i64 h, .int .i64 D])] (.int .i64 (lkE m p q h D)) none:=by
 refine start (ZB2 m p q h D) fun C hC=>tgo hC Zod ZMa ?_
 simp[ZH0,lkE,AV.bx,Zag]
theorem ZyY(m p q h D:Int):Zai Try.prog 50 [.agg (.gen [.int .i64 m, .int .i64 p, .int .i64 q, .int .i64 h, .int .i64 D])] (.int .i64 (lkE m p q h D)) none:=by
 refine start (ZEm m p q h D) fun C hC=>tgo hC Zod ZMW ?_
 by_cases h1:ZaB m p q=0
 ·by_cases h2:hfE h=0
  ·cases h3:Zal D 1 4<;>simp[ZyK,lkE,ZaD,Zam,h1,h2,h3]
  ·simp[ZyK,lkE,ZaD,h1,h2]
 ·simp[ZyK,lkE,ZaD,h1]
theorem Zn9{m p q h D:Int}(e:lkE m p q h D=0):ZaB m p q=0∧hfB h=true∧1≤h∧h≤3∧1≤D∧D≤4:=by
 obtain⟨e1,e⟩:=ZcL e
 obtain⟨e2,e⟩:=ZcL e
 obtain⟨e3,_⟩:=ZcL e
 have h2:=ZJQ e2
 refine⟨e1,decide_eq_true h2,h2.1,h2.2,?_⟩
 cases hw:Zal D 1 4 with
 |true=>exact of_decide_eq_true hw
 |false=>rw[hw]at e3;cases e3
@[irreducible] def daI (h D:Int):Int:=D*(15-2*h)
theorem Ztl(h D:Int):daI h D=D*(15-2*h):=by unfold daI;rfl
@[irreducible] def cnI (m D:Int):Int:=2*(4*D*15+m)
theorem Zz0(m D:Int):cnI m D=2*(4*D*15+m):=by unfold cnI;rfl
theorem ZyS(m p q h D:Int)(e:lkE m p q h D=0):Zai Try.prog 52 [.agg (.gen [.int .i64 m, .int .i64 p, .int .i64 q, .int .i64 h, .int .i64 D])] (.int .i64 (daI h D)) none:=by
 obtain⟨_,_,h1,h2,h3,h4⟩:=Zn9 e
 have b1:D*(15-2*h)≤4*13:=Int.mul_le_mul h4 (by omega) (by omega) (by omega)
 have b2:0≤D*(15-2*h):=Int.mul_nonneg (by omega) (by omega)
 rw[Ztl]
 refine start (ZDu m p q h D) fun C hC=>tgo hC Zod ZLk ?_
 simp[ZIc]
 omega
theorem Zys(m p q h D:Int)(e:lkE m p q h D=0):Zai Try.prog 54 [.agg (.gen [.int .i64 m, .int .i64 p, .int .i64 q, .int .i64 h, .int .i64 D])] (.int .i64 (cnI m D)) none:=by
 obtain⟨e1,_,h1,h2,h3,h4⟩:=Zn9 e
 have hm:=(Zap e1).1
 rw[Zz0]
 refine start (ZDm m p q h D) fun C hC=>tgo hC Zod ZNr ?_
 simp[ZJK]
 omega
section
variable {C:Ctx}(hC:C.P=Try.prog)(m p q:Int)(hv:ZaB m p q=0)
include hC hv
theorem E80(l:List Int)(hb:Zax l=true)(hl:l.length≤1000):∀(k i:Nat) (s:Int) (out:List Int),i+k=l.length→(0≤s∧s<stN m)→out.length=2*i→
 Ev C (ZjC m p q l.length l s i out) (Zic m p q l.length l s i out) (ZaI 80 (.row 0 0) (some ⟨3,1, .ints .i64 (out++ZoZ m p q s (l.drop i))⟩)):=by
 intro k
 induction k with
 |zero=>
  intro i s out hi hs ho
  rw[List.drop_of_length_le (by omega),ZoZ,List.append_nil]
  refine tgo hC Zod Zmn ?_
  simp[Zha,show ¬(i:Int)<l.length by omega]
 |succ k ih=>
  intro i s out hi hs ho
  have hlt:i<l.length:=by omega
  have hlt2:(i:Int)<l.length:=by omega
  have hbi:=Zcn hb i
  obtain⟨s1,s2,s3⟩:=Zph hv hs hbi
  have next:=ih (i+1) (nxS m s (l.getD i 0)) (out++[oS m p s (l.getD i 0),oS m q s (l.getD i 0)]) (by omega) ⟨s2,s3⟩ (by simp;omega)
  rw[Zfk hlt,ZoZ]
  rw[List.append_assoc]at next
  refine tgo hC Zod Zmn ?_
  simp[-List.getD_eq_getElem?_getD,Zha,hlt,hlt2,s1]at next⊢
  exact⟨by omega,next⟩
end
def ecB(m p q:Int)(l:List Int):Bool:=decide (ZaB m p q=0)&&Zax l&&decide (l.length≤300)
theorem ZG1{m p q:Int}{l:List Int}(h:ecB m p q l=true):ZaB m p q=0∧Zax l=true∧l.length≤300:=by
 unfold ecB at h
 simp only[Bool.and_eq_true,decide_eq_true_eq]at h
 exact⟨h.1.1,h.1.2,h.2⟩
theorem ZyR(m p q:Int)(l:List Int)(h:ecB m p q l=true):Zai Try.prog 80 [.agg (.gen [.int .i64 m, .int .i64 p, .int .i64 q]), .list (.ints .i64 l)] (.row 0 0) (some ⟨3,1, .ints .i64 (Zbf m p q l)⟩):=by
 obtain⟨h1,h2,h3⟩:=ZG1 h
 have hm:=(Zap h1).1
 refine start (ZEK m p q l) fun C hC=>tgo hC Zod ZMF ?_
 have i:=E80 hC m p q h1 (l++List.replicate m.toNat 0) (ZdL h2 (ZiY _)) (by simp;omega) (l++List.replicate m.toNat 0).length 0 0 [] (by omega) ⟨by omega,Zt2 hm⟩ rfl
 simp[ZHh,Zbf]at i⊢
 exact⟨by omega,i⟩
def k97:Ctr:=⟨97,0,fun _ a=>match a with |[.list (.ints .i64 l), .int .i64 r]=>some (decide (rcB l r=true), .row 0 0,some ⟨3,1, .ints .i64 (tS l r.toNat)⟩) |_=>none⟩
theorem ZIw:k97.OK Try.prog:=fun pa args r fr h=>by
 simp only[k97]at h
 split at h
 ·simp only[Option.some.injEq,Prod.mk.injEq,decide_eq_true_eq]at h
  obtain⟨h0,rfl,rfl⟩:=h
  exact Zvk _ _ h0
 ·cases h
def k51:Ctr:=⟨51,0,fun _ a=>match a with |[.agg (.gen [.int .i64 m, .int .i64 p, .int .i64 q, .int .i64 h, .int .i64 D])]=>some (true, .int .i64 (lkE m p q h D),none) |_=>none⟩
theorem ZII:k51.OK Try.prog:=fun pa args r fr h=>by
 simp only[k51]at h
 split at h
 ·cases h
  exact ZxT _ _ _ _ _
 ·cases h
def k50:Ctr:=⟨50,0,fun _ a=>match a with |[.agg (.gen [.int .i64 m, .int .i64 p, .int .i64 q, .int .i64 h, .int .i64 D])]=>some (true, .int .i64 (lkE m p q h D),none) |_=>none⟩
theorem ZIz:k50.OK Try.prog:=fun pa args r fr h=>by
 simp only[k50]at h
 split at h
 ·cases h
  exact ZyY _ _ _ _ _
 ·cases h
def k52:Ctr:=⟨52,0,fun _ a=>match a with |[.agg (.gen [.int .i64 m, .int .i64 p, .int .i64 q, .int .i64 h, .int .i64 D])]=>some (decide (lkE m p q h D=0), .int .i64 (daI h D),none) |_=>none⟩
theorem ZJt:k52.OK Try.prog:=fun pa args r fr h=>by
 simp only[k52]at h
 split at h
 ·simp only[Option.some.injEq,Prod.mk.injEq,decide_eq_true_eq]at h
  obtain⟨h0,rfl,rfl⟩:=h
  exact ZyS _ _ _ _ _ h0
 ·cases h
def k54:Ctr:=⟨54,0,fun _ a=>match a with |[.agg (.gen [.int .i64 m, .int .i64 p, .int .i64 q, .int .i64 h, .int .i64 D])]=>some (decide (lkE m p q h D=0), .int .i64 (cnI m D),none) |_=>none⟩
theorem ZI1:k54.OK Try.prog:=fun pa args r fr h=>by
 simp only[k54]at h
 split at h
 ·simp only[Option.some.injEq,Prod.mk.injEq,decide_eq_true_eq]at h
  obtain⟨h0,rfl,rfl⟩:=h
  exact Zys _ _ _ _ _ h0
 ·cases h
def k80:Ctr:=⟨80,0,fun _ a=>match a with |[.agg (.gen [.int .i64 m, .int .i64 p, .int .i64 q]), .list (.ints .i64 l)]=>some (decide (ecB m p q l=true), .row 0 0,some ⟨3,1, .ints .i64 (Zbf m p q l)⟩) |_=>none⟩
theorem ZJS:k80.OK Try.prog:=fun pa args r fr h=>by
 simp only[k80]at h
 split at h
 ·simp only[Option.some.injEq,Prod.mk.injEq,decide_eq_true_eq]at h
  obtain⟨h0,rfl,rfl⟩:=h
  exact ZyR _ _ _ _ h0
 ·cases h
def Ko:List Ctr:=[k97,k51,k50,k52,k54,k80]++Km
theorem ZdN:Zay Try.prog Ko:=⟨ZIw,⟨ZII,⟨ZIz,⟨ZJt,⟨ZI1,⟨ZJS,ZM5⟩⟩⟩⟩⟩⟩
end Go.Proofs.Ytklbmkllepkjcaa
/- Paths of functions, printed by the explorer (Gx). No condition. -/
namespace Go.Proofs.Ytklbmkllepkjcaa
set_option maxRecDepth 100000
set_option linter.unusedVariables false
def ZJg(m p q h D:Int)(l:List Int):AFrame:={ fn:=48,N:=70,env:=[(0,AV.agg (Row.gen [.int .i64 m, .int .i64 p, .int .i64 q, .int .i64 h, .int .i64 D])),(1,AV.list (.ints .i64 l))],todo:=[.code a48.code],defs:=[],rnd:=none,ret:=false,res:=[ARes.tmp 4,ARes.tmp 5] }
def ZPi(m p q h D:Int)(l:List Int):List AFrame:=[(ZJg m p q h D l)]
theorem ZDv(m p q h D:Int)(l:List Int):Zaq tab 48 [AV.agg (Row.gen [.int .i64 m, .int .i64 p, .int .i64 q, .int .i64 h, .int .i64 D]),AV.list (.ints .i64 l)]=some (ZJg m p q h D l):=rfl
def Zg9(m p q h D:Int)(l:List Int)(n0 n1 n2:Int)(b3:Bool)(n4 n5 n6 n7:Int)(b8:Bool)(n9 n10 n11:Int)(l12:List Int):List AFrame:=[{ fn:=119,N:=31,env:=[(0,AV.yld 48901 1),(1,AV.ptr 96003 0 0 0),(2,AV.ptr 96004 0 0 0),(4,AV.int .i64 n11)],todo:=.code (ACode.gh [] ZqB)::ZrQ,defs:=[],rnd:=none,ret:=false,res:=[] },{ fn:=48,N:=70,env:=[(1,AV.list (.ints .i64 l)),(2,AV.ptr 48003 0 0 0),(4,AV.nils),(5,AV.int .i64 0),(7,AV.int .i64 n0),(8,AV.int .i64 n1),(9,AV.ptr 48010 0 0 0),(10,AV.row 48065 0),(31,AV.int .i64 n2),(32,AV.bool b3),(34,AV.list (.ints .i64 l)),(35,AV.int .i64 n4),(36,AV.fn 119 [AV.ptr 96003 0 0 0,AV.ptr 96004 0 0 0])],todo:=[AItem.inRF 48901 1,AItem.inBlock 0, .code (ACode.seq (ACode.seq (ACode.reg none [oN 45 (OpK.load false 1 (Opd.t 9)),oN 46 (OpK.faddr 4 (Opd.t 2)),oN 47 (OpK.load false 1 (Opd.t 46)),oN 48 (OpK.ncall true 48049 97 [Opd.t 45,Opd.t 47]),oN 49 (OpK.len (Opd.t 48)),oN 50 (OpK.mov (cI 0))]) (ACode.block 2 (ACode.loop Zyn))) ZwS)],defs:=[(48901,0)],rnd:=none,ret:=false,res:=[ARes.tmp 4,ARes.tmp 5] }]
def ZfN(m p q h D:Int)(l:List Int)(n0 n1 n2:Int)(b3:Bool)(n4 n5 n6 n7:Int)(b8:Bool)(n9 n10 n11:Int)(l12:List Int):Zaa:=[(48003,{ base:=0,blks:=[Blk.row 78 5 (Row.gen [AV.agg (Row.gen [AV.int .i64 m,AV.int .i64 p,AV.int .i64 q,AV.int .i64 h,AV.int .i64 D])])] }),(48010,{ base:=0,blks:=[Blk.row 25 1 (Row.gen [.row 48045 0])] }),(48045,{ base:=0,blks:=[Blk.row 3 1 (.ints .i64 l12)] }),(48065,{ base:=0,blks:=[Blk.row 3 1 (.ints .i64 [])] }),(48901,{ base:=0,blks:=[Blk.dfr,Blk.lp { st:=RSt.ready,fn:=48,N:=70,env:=[(1,AV.list (.ints .i64 l)),(2,AV.ptr 48003 0 0 0),(4,AV.nils),(5,AV.int .i64 0),(7,AV.int .i64 n5),(8,AV.int .i64 n6),(9,AV.ptr 48010 0 0 0),(10,AV.row 48065 0),(31,AV.int .i64 n7),(32,AV.bool b8),(34,AV.list (.ints .i64 l)),(35,AV.int .i64 n9),(36,AV.fn 119 [AV.ptr 96003 0 0 0,AV.ptr 96004 0 0 0])],params:=[37],asg:=ACode.reg none [mV 11 37],body:=ACode.block 1 (ACode.seq (ACode.reg none [oN 38 (OpK.faddr 3 (Opd.t 2)),oN 39 (OpK.load false 1 (Opd.t 38)),mV 40 11,oN 41 (OpK.ncall true 0 76 [Opd.t 39,Opd.t 40]),oN 12 (OpK.alloc 48013 107 (AV.agg (.ints .i64 [0,0,0,0,0,0,0,0,0,0,0,0,0,0,0]))),{ d:=none,g:=none,k:=OpK.store 15 (Opd.t 12) (Opd.t 41) }]) (ACode.reg (some []) [oN 42 (OpK.load false 1 (Opd.t 9)),oN 43 (OpK.asl 15 (Opd.t 12) none none),oN 44 (OpK.append 48045 3 1 (Opd.t 42) (Opd.t 43)),{ d:=none,g:=none,k:=OpK.store 1 (Opd.t 9) (Opd.t 44) }])) }] }),(96003,{ base:=0,blks:=[Blk.row 25 1 (Row.gen [.list (.ints .i64 l)])] }),(96004,{ base:=0,blks:=[Blk.row 3 1 (Row.gen [.int .i64 n10])] })]
abbrev Zjk(m p q h D:Int)(l:List Int)(n0 n1 n2:Int)(b3:Bool)(n4 n5 n6 n7:Int)(b8:Bool)(n9 n10 n11:Int)(l12:List Int):List AFrame×Zaa:=(Zg9 m p q h D l n0 n1 n2 b3 n4 n5 n6 n7 b8 n9 n10 n11 l12,ZfN m p q h D l n0 n1 n2 b3 n4 n5 n6 n7 b8 n9 n10 n11 l12)
def Zgg(m p q h D n13:Int)(l14:List Int)(n15:Int)(l16:List Int):List AFrame:=[{ fn:=48,N:=70,env:=[(2,AV.ptr 48003 0 0 0),(10,AV.row 48065 0),(48,AV.row 48049 0),(49,AV.int .i64 n13),(50,AV.int .i64 n15)],todo:=.code (ACode.gh [] ZKa)::ZM4,defs:=[(48901,0)],rnd:=none,ret:=false,res:=[ARes.tmp 4,ARes.tmp 5] }]
def ZeN(m p q h D n13:Int)(l14:List Int)(n15:Int)(l16:List Int):Zaa:=[(48003,{ base:=0,blks:=[Blk.row 78 5 (Row.gen [AV.agg (Row.gen [AV.int .i64 m,AV.int .i64 p,AV.int .i64 q,AV.int .i64 h,AV.int .i64 D])])] }),(48049,{ base:=0,blks:=[Blk.row 3 1 (.ints .i64 l14)] }),(48065,{ base:=0,blks:=[Blk.row 3 1 (.ints .i64 l16)] }),(48901,{ base:=0,blks:=[Blk.dfr] })]
abbrev Zk0(m p q h D n13:Int)(l14:List Int)(n15:Int)(l16:List Int):List AFrame×Zaa:=(Zgg m p q h D n13 l14 n15 l16,ZeN m p q h D n13 l14 n15 l16)
def ZcA(m p q h D n13:Int)(l14:List Int)(n15 n17 n18:Int)(l19:List Int):List AFrame:=[{ fn:=48,N:=70,env:=[(2,AV.ptr 48003 0 0 0),(10,AV.row 48065 0),(14,AV.int .i64 n17),(15,AV.int .i64 n18),(48,AV.row 48049 0),(49,AV.int .i64 n13),(50,AV.int .i64 n15)],todo:=.code (ACode.gh [] ZHe)::ZMC,defs:=[(48901,0)],rnd:=none,ret:=false,res:=[ARes.tmp 4,ARes.tmp 5] }]
def ZbU(m p q h D n13:Int)(l14:List Int)(n15 n17 n18:Int)(l19:List Int):Zaa:=[(48003,{ base:=0,blks:=[Blk.row 78 5 (Row.gen [AV.agg (Row.gen [AV.int .i64 m,AV.int .i64 p,AV.int .i64 q,AV.int .i64 h,AV.int .i64 D])])] }),(48049,{ base:=0,blks:=[Blk.row 3 1 (.ints .i64 l14)] }),(48065,{ base:=0,blks:=[Blk.row 3 1 (.ints .i64 l19)] }),(48901,{ base:=0,blks:=[Blk.dfr] })]
abbrev Zk1(m p q h D n13:Int)(l14:List Int)(n15 n17 n18:Int)(l19:List Int):List AFrame×Zaa:=(ZcA m p q h D n13 l14 n15 n17 n18 l19,ZbU m p q h D n13 l14 n15 n17 n18 l19)
def ZyA(A:Ar)(K:KT)(F:FT)(m p q h D:Int)(l:List Int):Prop:=bB (A.not (A.eq (lkE m p q h D) 0)) (F (AV.tup [AV.nils,AV.int .i64 (lkE m p q h D)]) (none)) (rB [decide (List.length l≤1000000),A.inR .i64 (A.mul D (A.sub 15 (A.mul 2 h))),A.inR .i64 (A.sub 15 (A.mul 2 h)),A.inR .i64 (A.mul 2 h)] (bB (A.not (A.eq (elE l (A.mul D (A.sub 15 (A.mul 2 h)))) 0)) (F (AV.tup [AV.nils,AV.int .i64 (elE l (A.mul D (A.sub 15 (A.mul 2 h))))]) (none)) (bB (A.lt (A.sub 15 (A.mul 2 h)) 1) (False) (K (Zjk (m) (p) (q) (h) (D) (l) (A.sub 15 (A.mul 2 h)) (elE l (A.mul D (A.sub 15 (A.mul 2 h)))) (elE l (A.mul D (A.sub 15 (A.mul 2 h)))) (A.not (A.eq (elE l (A.mul D (A.sub 15 (A.mul 2 h)))) 0)) (A.sub 15 (A.mul 2 h)) (A.sub 15 (A.mul 2 h)) (elE l (A.mul D (A.sub 15 (A.mul 2 h)))) (elE l (A.mul D (A.sub 15 (A.mul 2 h)))) (A.not (A.eq (elE l (A.mul D (A.sub 15 (A.mul 2 h)))) 0)) (A.sub 15 (A.mul 2 h)) (A.sub 15 (A.mul 2 h)) (0) ([]))))))
theorem ZMR{A:Ar}{K:KT}{F:FT}{M:MT}{m p q h D:Int}{l:List Int} :Zaj A tab Ko 48 K F M (.run 18 (.tf (.run 7 (.fn)) (.run 26 (.tf (.run 7 (.fn)) (.run 26 (.tf (.no) (.run 18 (.hd)))))))) (ZPi m p q h D l) []=ZyA A K F m p q h D l:=by kernel_rfl
def Zf8(A:Ar)(K:KT)(F:FT)(m p q h D:Int)(l:List Int)(n0 n1 n2:Int)(b3:Bool)(n4 n5 n6 n7:Int)(b8:Bool)(n9 n10 n11:Int)(l12:List Int):Prop:=bB (A.lt n11 (A.int (A.len l))) (rB [Zae (Zae (Zae (Nat.ble 15 (A.len (enW h (A.sub3 l (A.nat n11) (A.nat (A.add n11 (A.min n10 (A.int (A.len (A.sub3 l (A.nat n11) (A.len l-A.nat n11))))))-A.nat n11))))) true) true) (Nat.ble (A.len l12+A.len (A.sub3 (enW h (A.sub3 l (A.nat n11) (A.nat (A.add n11 (A.min n10 (A.int (A.len (A.sub3 l (A.nat n11) (A.len l-A.nat n11))))))-A.nat n11))) 0 15)) 4294967296),Nat.beq (A.len (enW h (A.sub3 l (A.nat n11) (A.nat (A.add n11 (A.min n10 (A.int (A.len (A.sub3 l (A.nat n11) (A.len l-A.nat n11))))))-A.nat n11)))) 15,Nat.blt 0 (A.len [0,0,0,0,0,0,0,0,0,0,0,0,0,0,0]),decide (daB h (A.sub3 l (A.nat n11) (A.nat (A.add n11 (A.min n10 (A.int (A.len (A.sub3 l (A.nat n11) (A.len l-A.nat n11))))))-A.nat n11))=true),Zae (Zae (A.le 0 n11) (A.le 0 (A.add n11 (A.min n10 (A.int (A.len (A.sub3 l (A.nat n11) (A.len l-A.nat n11)))))))) (Zae (Zae (Nat.ble (A.nat n11) (A.nat (A.add n11 (A.min n10 (A.int (A.len (A.sub3 l (A.nat n11) (A.len l-A.nat n11)))))))) (Nat.ble (A.nat (A.add n11 (A.min n10 (A.int (A.len (A.sub3 l (A.nat n11) (A.len l-A.nat n11))))))) (A.len l))) (Zae (A.le 0 (A.add n11 (A.min n10 (A.int (A.len (A.sub3 l (A.nat n11) (A.len l-A.nat n11))))))) (Zae (Nat.ble (A.nat (A.add n11 (A.min n10 (A.int (A.len (A.sub3 l (A.nat n11) (A.len l-A.nat n11))))))) (A.nat (A.add n11 (A.min n10 (A.int (A.len (A.sub3 l (A.nat n11) (A.len l-A.nat n11)))))))) (Nat.ble (A.nat (A.add n11 (A.min n10 (A.int (A.len (A.sub3 l (A.nat n11) (A.len l-A.nat n11))))))) (A.len l))))),A.inR .i64 (A.add n11 (A.min n10 (A.int (A.len (A.sub3 l (A.nat n11) (A.len l-A.nat n11)))))),A.inR .i64 (A.add n11 (A.min n10 (A.int (A.len (A.sub3 l (A.nat n11) (A.len l-A.nat n11)))))),Zae (Zae (A.le 0 n11) true) (Zae (Zae (Nat.ble (A.nat n11) (A.len l)) (Nat.ble (A.len l) (A.len l))) true)] (rB [!A.not true] (rB [A.inR .i64 (A.add n11 n10)] (K (Zjk (m) (p) (q) (h) (D) (l) (n0) (n1) (n2) (b3) (n4) (n5) (n6) (n7) (b8) (n9) (n10) (A.add n11 n10) (A.app l12 (A.sub3 (enW h (A.sub3 l (A.nat n11) (A.nat (A.add n11 (A.min n10 (A.int (A.len (A.sub3 l (A.nat n11) (A.len l-A.nat n11))))))-A.nat n11))) 0 15))))))) (rB [decide (rcB l12 D=true)] (K (Zk0 (m) (p) (q) (h) (D) (A.int (A.len (tS l12 (Int.toNat D)))) (tS l12 (Int.toNat D)) (0) ([]))))
theorem Zj4{A:Ar}{K:KT}{F:FT}{M:MT}{m p q h D:Int}{l:List Int}{n0 n1 n2:Int}{b3:Bool}{n4 n5 n6 n7:Int}{b8:Bool}{n9 n10 n11:Int}{l12:List Int} :Zaj A tab Ko 48 K F M (.run 9 (.tf (.run 39 (.fy (.run 10 (.hd)))) (.run 18 (.hd)))) (Zg9 m p q h D l n0 n1 n2 b3 n4 n5 n6 n7 b8 n9 n10 n11 l12) (ZfN m p q h D l n0 n1 n2 b3 n4 n5 n6 n7 b8 n9 n10 n11 l12)=Zf8 A K F m p q h D l n0 n1 n2 b3 n4 n5 n6 n7 b8 n9 n10 n11 l12:=by kernel_rfl
def Zhy(A:Ar)(K:KT)(F:FT)(m p q h D n13:Int)(l14:List Int)(n15:Int)(l16:List Int):Prop:=bB (A.lt n15 n13) (rB [Zae (Nat.blt (A.nat n15) (A.len l14)) true,Zae (A.le 0 n15) (Nat.blt (A.nat n15) (A.len l14))] (K (Zk1 (m) (p) (q) (h) (D) (n13) (l14) (n15) (A.nth l14 (A.nat n15)) (3) (l16)))) (rB [decide (ecB m p q l16=true)] (F (AV.tup [AV.row 0 0,AV.int .i64 0]) (some { e:=3,sz:=1,r:=.ints .i64 (Zbf m p q l16) })))
theorem Zma{A:Ar}{K:KT}{F:FT}{M:MT}{m p q h D n13:Int}{l14:List Int}{n15:Int}{l16:List Int} :Zaj A tab Ko 48 K F M (.run 6 (.tf (.run 16 (.hd)) (.run 12 (.fn)))) (Zgg m p q h D n13 l14 n15 l16) (ZeN m p q h D n13 l14 n15 l16)=Zhy A K F m p q h D n13 l14 n15 l16:=by kernel_rfl
def Zcv(A:Ar)(K:KT)(F:FT)(m p q h D n13:Int)(l14:List Int)(n15 n17 n18:Int)(l19:List Int):Prop:=bB (A.le 0 n18) (rB [A.inR .i64 (A.sub n18 1),Nat.ble (A.len l19+A.len [A.bits Go.BinOp.and .i64 (A.shr n17 n18) 1]) 4294967296,List.all [AV.int .i64 (A.bits Go.BinOp.and .i64 (A.shr n17 n18) 1)] fun x=>AV.bx x&&Nat.beq (Zag A x) 1,Zae (A.le 0 n18) (Nat.blt (A.nat n18) 64)] (K (Zk1 (m) (p) (q) (h) (D) (n13) (l14) (n15) (n17) (A.sub n18 1) (A.app l19 [A.bits Go.BinOp.and .i64 (A.shr n17 n18) 1])))) (rB [A.inR .i64 (A.add n15 1)] (K (Zk0 (m) (p) (q) (h) (D) (n13) (l14) (A.add n15 1) (l19))))
theorem Zdq{A:Ar}{K:KT}{F:FT}{M:MT}{m p q h D n13:Int}{l14:List Int}{n15 n17 n18:Int}{l19:List Int} :Zaj A tab Ko 48 K F M (.run 7 (.tf (.run 21 (.hd)) (.run 8 (.hd)))) (ZcA m p q h D n13 l14 n15 n17 n18 l19) (ZbU m p q h D n13 l14 n15 n17 n18 l19)=Zcv A K F m p q h D n13 l14 n15 n17 n18 l19:=by kernel_rfl
end Go.Proofs.Ytklbmkllepkjcaa
