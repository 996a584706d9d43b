/- Contracts as a list. No condition. -/
import Derived.Test.YtklbmkllepkjcaaP2
import Derived.KernelRfl
namespace Go.Proofs.Ytklbmkllepkjcaa
theorem Rel.sameA{w:World}{ok:Nat→Prop}{h:Zaa}{L:Lay}{r r':Row}{v:Value}(he:r.elems=r'.elems)(hr:Rel w ok h L (.agg r) v):Rel w ok h L (.agg r') v:=by
 cases hr with
 |agg _ xs hx vs hl h1 hrr=>exact .agg r' xs (hx.trans he) vs hl h1 hrr
theorem Zec{f:FuncId}{xs ys:List AV}{r r':Row}{x:AV}{fr:Option Fresh}(h:Zaj Try.prog f (xs++ .agg r::ys) x fr)(he:r'.elems=r.elems):Zaj Try.prog f (xs++ .agg r'::ys) x fr:=by
 intro w okA L vs hargs hok hG
 refine h w okA L vs ⟨by have:=hargs.1;simpa using this,fun j u v hu hv=>?_⟩ hok hG
 rcases Nat.lt_trichotomy j xs.length with hj |hj |hj
 ·rw[List.getElem?_append_left hj]at hu
  exact hargs.2 j u v (by rw[List.getElem?_append_left hj];exact hu) hv
 ·subst hj
  rw[List.getElem?_append_right (Nat.le_refl _)]at hu
  simp only[Nat.sub_self,List.getElem?_cons_zero,Option.some.injEq]at hu
  subst hu
  exact Rel.sameA he (hargs.2 _ _ v (by rw[List.getElem?_append_right (Nat.le_refl _)];simp) hv)
 ·rw[List.getElem?_append_right (by omega),show j-xs.length=(j-xs.length-1)+1 by omega,List.getElem?_cons_succ]at hu
  exact hargs.2 j u v (by rw[List.getElem?_append_right (by omega),show j-xs.length=(j-xs.length-1)+1 by omega,List.getElem?_cons_succ];exact hu) hv
def ZyG(x:Nat):Nat:=x%2+x/2%2+x/4%2+x/8%2
def ZvW(r k:Int):Int:=((ZyG (r.toNat &&& k.toNat)%2:Nat):Int)
theorem ZpD(r k:Nat)(hr:r≤15)(hk:k≤15):std.bits .and .i64 (r:Int) (k:Int)=((r &&& k:Nat):Int):=by
 have h1:∀m:Nat,m≤15→(BitVec.ofInt 64 (m:Int)).toNat=m:=fun m hm=>by
  rw[BitVec.ofInt_natCast,BitVec.toNat_ofNat];exact Nat.mod_eq_of_lt (by omega)
 show IntKind.i64.wrap ((BitVec.ofInt 64 (r:Int) &&& BitVec.ofInt 64 (k:Int)).toNat:Int)=_
 rw[BitVec.toNat_and,h1 r hr,h1 k hk]
 have:= @Nat.and_le_left r k
 rw[IntKind.wrap_i64]
 omega
theorem Zwp:∀ {l:List Bool},l.all (fun b=>b)=true→AllT l
 |[],_=>trivial
 |b::l,h=>by
  simp only[List.all_cons,Bool.and_eq_true]at h
  exact⟨h.1,Zwp h.2⟩
theorem Zvw(x:Int)(h:0≤x∧x≤15):Zaj Try.prog 113 [.int .u64 x] (.int .i64 ((ZyG x.toNat:Nat):Int)) none:=by
 have:x=0∨x=1∨x=2∨x=3∨x=4∨x=5∨x=6∨x=7∨x=8∨x=9∨x=10∨x=11∨x=12∨x=13∨x=14∨x=15:=by omega
 rcases this with rfl |rfl |rfl |rfl |rfl |rfl |rfl |rfl |rfl |rfl |rfl |rfl |rfl |rfl |rfl |rfl<;>
  exact start (ZBN _) fun C hC=>tgo hC Zgq ZNV (by
   simp only[ZD2,Zvh]
   exact⟨Zwp (by kernel_rfl),by kernel_rfl,trivial⟩)
def ZaM(xs:List Int)(lo hi:Int):Int:=if xs.all (fun x=>Zao x lo hi)=true then 0 else 2
theorem Zmh{xs:List Int}{k:Nat}(lo hi:Int)(h:k<xs.length):ZaM (xs.drop k) lo hi=if Zao (xs.getD k 0) lo hi=true then ZaM (xs.drop (k+1)) lo hi else 2:=by
 rw[ZdV h]
 unfold ZaM
 cases hw:Zao (xs.getD k 0) lo hi<;>simp[-List.getD_eq_getElem?_getD,List.all_cons,hw]
section
variable {C:Ctx}(hC:C.P=Try.prog)
include hC
theorem Zzv:∀(K n:Nat),K≤15→n+K≤100→Ev C (Zgk K n) (Zee K n) (Zav 109 (.int .i64 (((n+ZyG K)%2:Nat):Int)) none):=by
 intro K
 induction K using Nat.strongRecOn with
 |_ K ih=>
  intro n hK hn
  refine tgo hC Zgq Zrm ?_
  by_cases h0:K=0
  ·subst h0
   have t1:((n:Nat):Int).tmod 2=((n%2:Nat):Int):=rfl
   simp[Zex,t1,ZyG]
  ·have next:=ih (K/2) (by omega) (n+K%2) (by omega) (by omega)
   have e:n+K%2+ZyG (K/2)=n+ZyG K:=by unfold ZyG;omega
   rw[e]at next
   have t1:((K:Nat):Int).tmod 2=((K%2:Nat):Int):=rfl
   have t2:((K:Nat):Int).tdiv 2=((K/2:Nat):Int):=rfl
   simp only[Zex,ZzV,Zl1,t1,t2,Zu0,Zvh,ZBs,ZcU]
   rw[if_pos (by simp;omega)]
   refine⟨by simp;omega,?_⟩
   have c:((n:Int)+((K%2:Nat):Int))=((n+K%2:Nat):Int):=by omega
   rw[c];exact next
theorem Zul(xs:List Int)(lo hi:Int)(hl:xs.length≤1000000):∀m k:Nat,k+m=xs.length→Ev C (ZiZ xs lo hi xs.length k) (ZgC xs lo hi xs.length k) (Zav 70 (.int .i64 (ZaM (xs.drop k) lo hi)) none)
 |0,k,hk=>tgo hC Zgq ZlL (by
  rw[List.drop_of_length_le (by omega)]
  simp[ZdP,show ¬(k:Int)<xs.length by omega,ZaM,Zau])
 |m+1,k,hk=>by
  have ih:=Zul xs lo hi hl m (k+1) (by omega)
  have hlt:(k:Int)<xs.length:=by omega
  have hlt2:k<xs.length:=by omega
  rw[Zmh lo hi hlt2]
  refine tgo hC Zgq ZlL ?_
  cases hw:Zao (xs.getD k 0) lo hi with
  |true=>
   simp[-List.getD_eq_getElem?_getD,ZdP,hlt,hlt2,hw]
   exact⟨by omega,by simpa using ih⟩
  |false=>simp[-List.getD_eq_getElem?_getD,ZdP,hlt,hlt2,hw,Zau]
theorem Zq2(xs:List Int)(hl:xs.length≤1000000):∀m k:Nat,k+m=xs.length→Ev C (ZlY xs k) (Zil xs k) (Zav 55 (.int .i64 (ZaM (xs.drop k) (-7) 7)) none)
 |0,k,hk=>tgo hC Zgq Zom (by
  rw[List.drop_of_length_le (by omega)]
  simp[Ze5,show ¬(k:Int)<xs.length by omega,ZaM])
 |m+1,k,hk=>by
  have ih:=Zq2 xs hl m (k+1) (by omega)
  have hlt:(k:Int)<xs.length:=by omega
  have hlt2:k<xs.length:=by omega
  rw[Zmh _ _ hlt2]
  refine tgo hC Zgq Zom ?_
  cases hw:Zao (xs.getD k 0) (-7) 7 with
  |true=>
   simp[-List.getD_eq_getElem?_getD,Ze5,hlt,hlt2,hw]
   exact⟨by omega,by simpa using ih⟩
  |false=>simp[-List.getD_eq_getElem?_getD,Ze5,hlt,hlt2,hw]
theorem ZpZ(xs:List Int)(hl:xs.length≤1000000):∀m k:Nat,k+m=xs.length→Ev C (ZlI xs k) (Zic xs k) (Zav 26 (.int .i64 (ZaM (xs.drop k) 0 15)) none)
 |0,k,hk=>tgo hC Zgq ZoD (by
  rw[List.drop_of_length_le (by omega)]
  simp[ZfF,show ¬(k:Int)<xs.length by omega,ZaM])
 |m+1,k,hk=>by
  have ih:=ZpZ xs hl m (k+1) (by omega)
  have hlt:(k:Int)<xs.length:=by omega
  have hlt2:k<xs.length:=by omega
  rw[Zmh _ _ hlt2]
  refine tgo hC Zgq ZoD ?_
  cases hw:Zao (xs.getD k 0) 0 15 with
  |true=>
   simp[-List.getD_eq_getElem?_getD,ZfF,hlt,hlt2,hw]
   exact⟨by omega,by simpa using ih⟩
  |false=>simp[-List.getD_eq_getElem?_getD,ZfF,hlt,hlt2,hw]
end
theorem Zxh(r k:Int)(h:(0≤r∧r≤15)∧0≤k∧k≤15):Zaj Try.prog 109 [.int .i64 r, .int .i64 k] (.int .i64 (ZvW r k)) none:=by
 obtain⟨R,rfl⟩:=Int.eq_ofNat_of_zero_le h.1.1
 obtain⟨K,rfl⟩:=Int.eq_ofNat_of_zero_le h.2.1
 have hl:= @Nat.and_le_left R K
 refine start (ZAB R K) fun C hC=>tgo hC Zgq ZMr ?_
 simp only[ZC3]
 rw[ZpD R K (by omega) (by omega)]
 have:=Zzv hC (R &&& K) 0 (by omega) (by omega)
 rw[Nat.zero_add]at this
 exact this
theorem ZAG(xs:List Int)(lo hi:Int)(hl:xs.length≤1000000):Zaj Try.prog 70 [.list (.ints .i64 xs), .int .i64 lo, .int .i64 hi] (.int .i64 (ZaM xs lo hi)) none:=
 start (ZFr xs lo hi) fun C hC=>tgo hC Zgq ZR6 (by
  have:=Zul hC xs lo hi hl xs.length 0 (by omega)
  simp[ZLa]
  simpa using this)
theorem ZwG(xs:List Int)(hl:xs.length≤1000000):Zaj Try.prog 55 [.list (.ints .i64 xs)] (.int .i64 (ZaM xs (-7) 7)) none:=
 start (ZEG xs) fun C hC=>tgo hC Zgq ZSG (by
  have:=Zq2 hC xs hl xs.length 0 (by omega)
  simp[ZIV]
  simpa using this)
theorem ZxR(xs:List Int)(hl:xs.length≤1000000):Zaj Try.prog 26 [.list (.ints .i64 xs)] (.int .i64 (ZaM xs 0 15)) none:=
 start (ZHG xs) fun C hC=>tgo hC Zgq ZP9 (by
  have:=ZpZ hC xs hl xs.length 0 (by omega)
  simp[ZIb]
  simpa using this)
def stN(m:Int):Int:=2^m.toNat
def Zes(m:Int):Bool:=decide (1≤m∧m≤3)
theorem ZjE{m:Int}(h:1≤m∧m≤3):stN m=2∨stN m=4∨stN m=8:=by
 have:m=1∨m=2∨m=3:=by omega
 rcases this with rfl |rfl |rfl<;>simp[stN]
theorem ZkM(m p q:Int)(h:1≤m∧m≤3):Zaj Try.prog 67 [.agg (.ints .i64 [m,p,q])] (.int .i64 (stN m)) none:=
 start (ZEz m p q) fun C hC=>tgo hC Zgq ZSi (by
  have h2:=ZjE h
  unfold stN at h2⊢
  simp[ZMk];omega)
def k113:Ctr:=⟨113,0,fun _ a=>match a with |[.int .u64 x]=>some (decide (0≤x∧x≤15), .int .i64 ((ZyG x.toNat:Nat):Int),none) |_=>none⟩
theorem ZHW:k113.OK Try.prog:=fun pa args r fr h=>by
 simp only[k113]at h
 split at h
 ·simp only[Option.some.injEq,Prod.mk.injEq,decide_eq_true_eq]at h
  obtain⟨h0,rfl,rfl⟩:=h
  exact Zvw _ h0
 ·cases h
def k109:Ctr:=⟨109,0,fun _ a=>match a with |[.int .i64 r, .int .i64 k]=>some (decide ((0≤r∧r≤15)∧0≤k∧k≤15), .int .i64 (ZvW r k),none) |_=>none⟩
theorem ZEn:k109.OK Try.prog:=fun pa args r fr h=>by
 simp only[k109]at h
 split at h
 ·simp only[Option.some.injEq,Prod.mk.injEq,decide_eq_true_eq]at h
  obtain⟨h0,rfl,rfl⟩:=h
  exact Zxh _ _ h0
 ·cases h
def k70:Ctr:=⟨70,0,fun _ a=>match a with |[.list (.ints .i64 xs), .int .i64 lo, .int .i64 hi]=>some (decide (xs.length≤1000000), .int .i64 (ZaM xs lo hi),none) |_=>none⟩
theorem ZJU:k70.OK Try.prog:=fun pa args r fr h=>by
 simp only[k70]at h
 split at h
 ·simp only[Option.some.injEq,Prod.mk.injEq,decide_eq_true_eq]at h
  obtain⟨h0,rfl,rfl⟩:=h
  exact ZAG _ _ _ h0
 ·cases h
def k55:Ctr:=⟨55,0,fun _ a=>match a with |[.list (.ints .i64 xs)]=>some (decide (xs.length≤1000000), .int .i64 (ZaM xs (-7) 7),none) |_=>none⟩
theorem ZO5:k55.OK Try.prog:=fun pa args r fr h=>by
 simp only[k55]at h
 split at h
 ·simp only[Option.some.injEq,Prod.mk.injEq,decide_eq_true_eq]at h
  obtain⟨h0,rfl,rfl⟩:=h
  exact ZwG _ h0
 ·cases h
def k26:Ctr:=⟨26,0,fun _ a=>match a with |[.list (.ints .i64 xs)]=>some (decide (xs.length≤1000000), .int .i64 (ZaM xs 0 15),none) |_=>none⟩
theorem ZKh:k26.OK Try.prog:=fun pa args r fr h=>by
 simp only[k26]at h
 split at h
 ·simp only[Option.some.injEq,Prod.mk.injEq,decide_eq_true_eq]at h
  obtain⟨h0,rfl,rfl⟩:=h
  exact ZxR _ h0
 ·cases h
def k67i:Ctr:=⟨67,0,fun _ a=>match a with |[.agg (.ints .i64 [m,_,_])]=>some (decide (Zes m=true), .int .i64 (stN m),none) |_=>none⟩
theorem ZHq:k67i.OK Try.prog:=fun pa args r fr h=>by
 simp only[k67i]at h
 split at h
 ·simp only[Option.some.injEq,Prod.mk.injEq,decide_eq_true_eq]at h
  obtain⟨h0,rfl,rfl⟩:=h
  exact ZkM _ _ _ (of_decide_eq_true h0)
 ·cases h
def k67g:Ctr:=⟨67,0,fun _ a=>match a with |[.agg (.gen [.int .i64 m, .int .i64 _, .int .i64 _])]=>some (decide (Zes m=true), .int .i64 (stN m),none) |_=>none⟩
theorem ZF9:k67g.OK Try.prog:=fun pa args r fr h=>by
 simp only[k67g]at h
 split at h
 ·simp only[Option.some.injEq,Prod.mk.injEq,decide_eq_true_eq]at h
  obtain⟨h0,rfl,rfl⟩:=h
  exact Zec (xs:=[]) (r:=.ints .i64 [_,_,_]) (ZkM _ _ _ (of_decide_eq_true h0)) rfl
 ·cases h
def N2:List Ctr:=[k113,k109,k70,k55,k26,k67i,k67g]++N1
theorem ZqE:Zay Try.prog N2:=⟨ZHW,⟨ZEn,⟨ZJU,⟨ZO5,⟨ZKh,⟨ZHq,⟨ZF9,Zgq⟩⟩⟩⟩⟩⟩⟩
end Go.Proofs.Ytklbmkllepkjcaa
/- Paths of functions, printed by the explorer (Gx). No condition. -/
namespace Go.Proofs.Ytklbmkllepkjcaa
set_option maxRecDepth 100000
set_option linter.unusedVariables false
def ZLs(m g0 g1:Int):AFrame:=vF 63 15 [(0,AV.agg (.ints .i64 [m,g0,g1]))] [.code a63.code] [.tmp 2]
def ZU8(m g0 g1:Int):List AFrame:=[(ZLs m g0 g1)]
theorem ZGC(m g0 g1:Int):Zal tab 63 [AV.agg (.ints .i64 [m,g0,g1])]=some (ZLs m g0 g1):=rfl
def ZEJ(A:Ar)(K:KT)(F:FT)(m g0 g1:Int):Prop:=let u4:=A.nth [m,g0,g1] 0;let u0:=A.add u4 1;let u1:=A.len [m,g0,g1];let u2:=A.sub3 [m,g0,g1] 1 2;let u3:=A.shl 1 u0;rB [Nat.blt 0 u1,Nat.blt 0 u1] (bB (A.not (Zao u4 1 3)) (F (AV.int .i64 2) none) (rB [Zad (Zad (Zad (Nat.ble 3 u1) true) true) (decide (List.length u2≤1000000)),A.inR .i64 (A.sub u3 1),Zad (Zad (A.le 0 u0) (Nat.blt (A.nat u0) 64)) (A.inR .i64 u3),A.inR .i64 u0,Nat.blt 0 u1] (F (AV.int .i64 (ZaM u2 1 (A.sub u3 1))) none)))
theorem ZSz{A:Ar}{K:KT}{F:FT}{M:MT}{m g0 g1:Int} :Zah A tab N2 63 K F M (.run 13 (.tf (.run 5 (.fn)) (.run 5 (.fn)))) (ZU8 m g0 g1) []=ZEJ A K F m g0 g1:=by kernel_rfl
def ZKn(m g0 g1:Int):AFrame:=vF 28 29 [(0,AV.agg (.ints .i64 [m,g0,g1]))] [.code a28.code] [.tmp 2]
def ZUa(m g0 g1:Int):List AFrame:=[(ZKn m g0 g1)]
theorem ZFQ(m g0 g1:Int):Zal tab 28 [AV.agg (.ints .i64 [m,g0,g1])]=some (ZKn m g0 g1):=rfl
def ZFG(A:Ar)(K:KT)(F:FT)(m g0 g1:Int):Prop:=let u0:=A.nth [m,g0,g1] 0;let u1:=A.len [m,g0,g1];let u3:=A.shl 2 u0;let u2:=A.sub u3 1;let u4:=A.nth [m,g0,g1] 1;let u5:=A.nat u0;rB [Nat.blt 0 u1] (qB [A.not (Zao u0 1 3),Nat.blt 0 u1] (F (AV.int .i64 2) none) (qB [A.not (Zao u4 1 u2),A.inR .i64 u2,Zad (Zad (A.le 0 u0) (Nat.blt u5 64)) (A.inR .i64 u3),Nat.blt 0 u1,Nat.blt 1 u1,!A.not (Zao u0 1 3),Nat.blt 0 u1] (F (AV.int .i64 2) none) (rB [A.inR .i64 u2,Zad (Zad (A.le 0 u0) (Nat.blt u5 64)) (A.inR .i64 u3),Nat.blt 0 u1,Nat.blt 2 u1,!A.not (Zao u4 1 u2),A.inR .i64 u2,Zad (Zad (A.le 0 u0) (Nat.blt u5 64)) (A.inR .i64 u3),Nat.blt 0 u1,Nat.blt 1 u1,!A.not (Zao u0 1 3),Nat.blt 0 u1] (bB (A.not (Zao (A.nth [m,g0,g1] 2) 1 u2)) (F (AV.int .i64 2) none) (F (AV.int .i64 0) none)))))
theorem ZQL{A:Ar}{K:KT}{F:FT}{M:MT}{m g0 g1:Int} :Zah A tab N2 28 K F M (.run 7 (.alt [true,true] (.run 1 (.ty (.run 5 (.fn)))) (.alt [false,true] (.run 1 (.ty (.run 5 (.fn)))) (.alt [false,false] (.run 1 (.tf (.run 5 (.fn)) (.run 6 (.fn)))) (.no))))) (ZUa m g0 g1) []=ZFG A K F m g0 g1:=by kernel_rfl
def ZOx(m g0 g1 s b:Int):AFrame:=vF 82 35 [(0,AV.agg (.ints .i64 [m,g0,g1])),vI 1 s,vI 2 b] [.code a82.code] [.tmp 6,ARes.cell 7 true 2]
def ZUd(m g0 g1 s b:Int):List AFrame:=[(ZOx m g0 g1 s b)]
theorem ZGA(m g0 g1 s b:Int):Zal tab 82 [AV.agg (.ints .i64 [m,g0,g1]),AV.int .i64 s,AV.int .i64 b]=some (ZOx m g0 g1 s b):=rfl
def ZeJ(n0:Int)(l1:List Int)(n2:Int)(l3:List Int):List AFrame:=[vF 82 35 [vP 7 82008,vI 8 n0,(18,AV.agg (.ints .i64 l1)),vI 19 n2] (vC ZKN ZQQ) [.tmp 6,ARes.cell 7 true 2]]
def Zdr(n0:Int)(l1:List Int)(n2:Int)(l3:List Int):Zaa:=[(82008,{ base:=0,blks:=[Blk.row 22 2 (Row.gen [.agg (.ints .i64 l3)])] })]
abbrev ZoI(n0:Int)(l1:List Int)(n2:Int)(l3:List Int):List AFrame×Zaa:=(ZeJ n0 l1 n2 l3,Zdr n0 l1 n2 l3)
def ZKr(A:Ar)(K:KT)(F:FT)(m g0 g1 s b:Int):Prop:=let u0:=A.nth [m,g0,g1] 0;let u1:=A.len [m,g0,g1];rB [Nat.ble 3 u1,Zad (Zad (A.le 0 u0) (Nat.blt (A.nat u0) 64)) (A.inR .i64 (A.shl b u0)),Nat.blt 0 u1,Nat.blt 0 (A.len [0,0]),Nat.blt 0 u1] (K (ZoI (A.bits Go.BinOp.or .i64 (A.shl b u0) s) (A.sub3 [m,g0,g1] 1 2) 0 ([0,0])))
theorem ZRz{A:Ar}{K:KT}{F:FT}{M:MT}{m g0 g1 s b:Int} :Zah A tab N2 82 K F M (.run 27 (.hd)) (ZUd m g0 g1 s b) []=ZKr A K F m g0 g1 s b:=by kernel_rfl
def Ze7(A:Ar)(K:KT)(F:FT)(n0:Int)(l1:List Int)(n2:Int)(l3:List Int):Prop:=let u0:=A.nth l1 (A.nat n2);let u1:=A.bits Go.BinOp.and .i64 n0 u0;let u2:=A.sub3 l3 0 2;bB (A.lt n2 2) (rB [A.inR .i64 (A.add n2 1),Nat.blt (0+A.nat n2) 2,Zad (A.le 0 n2) (A.lt n2 (A.int 2)),A.not (A.eq 2 0),decide (0≤A.bits Go.BinOp.and .i64 n0 u0∧A.bits Go.BinOp.and .i64 n0 u0≤15),A.inR .u64 u1,Zad (Zad (A.le 0 n2) (A.lt n2 (A.int 2))) (Nat.blt (A.nat n2) (A.len l1))] (K (ZoI n0 l1 (A.add n2 1) (A.set l3 (0+A.nat n2) (A.rem (↑(ZyG (Int.toNat u1))) 2))))) (rB [Nat.beq (A.len u2) 2,Nat.ble 2 (A.len l3),Zad (A.le 0 1) (Nat.blt (A.nat 1) 64)] (rB [Zad (Zad (Nat.ble 2 (A.len u2)) true) true] (F (AV.tup [AV.int .i64 (A.shr n0 1),AV.agg (.ints .i64 (A.sub3 u2 0 2))]) none)))
theorem Ziz{A:Ar}{K:KT}{F:FT}{M:MT}{n0:Int}{l1:List Int}{n2:Int}{l3:List Int} :Zah A tab N2 82 K F M (.run 6 (.tf (.run 28 (.hd)) (.run 4 (.fn)))) (ZeJ n0 l1 n2 l3) (Zdr n0 l1 n2 l3)=Ze7 A K F n0 l1 n2 l3:=by kernel_rfl
def ZJi(m g0 g1 s b:Int):AFrame:=vF 68 28 [(0,AV.agg (.ints .i64 [m,g0,g1])),vI 1 s,vI 2 b] [.code a68.code] [.tmp 6,ARes.cell 7 true 2]
def ZUU(m g0 g1 s b:Int):List AFrame:=[(ZJi m g0 g1 s b)]
theorem ZFM(m g0 g1 s b:Int):Zal tab 68 [AV.agg (.ints .i64 [m,g0,g1]),AV.int .i64 s,AV.int .i64 b]=some (ZJi m g0 g1 s b):=rfl
def ZOw(A:Ar)(K:KT)(F:FT)(m g0 g1 s b:Int):Prop:=let u5:=A.nth [m,g0,g1] 0;let u0:=A.shl b u5;let u4:=A.add u0 s;let u2:=A.set [0,0] 0 (ZvW u4 (A.nth [m,g0,g1] 1));let u1:=A.set u2 1 (ZvW u4 (A.nth [m,g0,g1] 2));let u3:=A.len [m,g0,g1];rB [Nat.beq (A.len u1) 2,Zad (Nat.ble 1 (A.len [0,0])) (Zad (Nat.ble 2 (A.len u2)) true),decide ((0≤A.add u0 s∧A.add u0 s≤15)∧0≤A.nth [m,g0,g1] 2∧A.nth [m,g0,g1] 2≤15),Nat.blt 2 u3,decide ((0≤A.add u0 s∧A.add u0 s≤15)∧0≤A.nth [m,g0,g1] 1∧A.nth [m,g0,g1] 1≤15),Nat.blt 1 u3,Zad (A.not (A.eq 2 0)) (A.inR .i64 (A.quo u4 2)),A.inR .i64 u4,Zad (Zad (A.le 0 u5) (Nat.blt (A.nat u5) 64)) (A.inR .i64 u0),Nat.blt 0 u3,Nat.blt 0 (A.len [0,0]),Nat.blt 0 u3] (rB [Zad (Zad (Nat.ble 2 (A.len u1)) true) true] (F (AV.tup [AV.int .i64 (A.quo u4 2),AV.agg (.ints .i64 (A.sub3 u1 0 2))]) none))
theorem ZQW{A:Ar}{K:KT}{F:FT}{M:MT}{m g0 g1 s b:Int} :Zah A tab N2 68 K F M (.run 21 (.fn)) (ZUU m g0 g1 s b) []=ZOw A K F m g0 g1 s b:=by kernel_rfl
end Go.Proofs.Ytklbmkllepkjcaa
/- Contracts as a list. No condition. -/
namespace Go.Proofs.Ytklbmkllepkjcaa
def Za8(m p q:Int):Int:=if ¬(1≤m∧m≤3)then 2 else if(1≤p∧p≤2*stN m-1)∧(1≤q∧q≤2*stN m-1)then 0 else 2
theorem Zaz{m p q:Int}(h:Za8 m p q=0):(m=1∨m=2∨m=3)∧1≤p∧p≤2*stN m-1∧1≤q∧q≤2*stN m-1∧p≤15∧q≤15:=by
 unfold Za8 at h
 split at h
 ·cases h
 ·rename_i h1
  split at h
  ·rename_i h2
   have h3:=ZjE (show 1≤m∧m≤3 by omega)
   exact⟨by omega,by omega,by omega,by omega,by omega,by omega,by omega⟩
  ·cases h
theorem Zqs(m p q:Int):Zaj Try.prog 28 [.agg (.ints .i64 [m,p,q])] (.int .i64 (Za8 m p q)) none:=
 start (ZFQ m p q) fun C hC=>tgo hC ZqE ZQL (by
  by_cases h1:1≤m∧m≤3
  ·have h3:=ZjE h1
   have hm:0≤m∧m≤64:=by omega
   have hw:Zao m 1 3=true:=decide_eq_true h1
   have e:(2:Int)*2^m.toNat=2*stN m:=rfl
   simp only[ZFG,ZaV,List.getD_cons_zero,List.getD_cons_succ,ZsM,e,ZhX]
   cases hp:Zao p 1 (2*stN m-1)with
   |false=>
    have:¬(1≤p∧p≤2*stN m-1):=of_decide_eq_false hp
    simp[Zw3,hw,hp,Za8,h1,this];omega
   |true=>
    have hp2:1≤p∧p≤2*stN m-1:=of_decide_eq_true hp
    cases hq:Zao q 1 (2*stN m-1)with
    |false=>
     have:¬(1≤q∧q≤2*stN m-1):=of_decide_eq_false hq
     simp[Zw3,hw,hp,hq,Za8,h1,hp2,this];omega
    |true=>
     have hq2:1≤q∧q≤2*stN m-1:=of_decide_eq_true hq
     simp[Zw3,hw,hp,hq,Za8,h1,hp2,hq2];omega
  ·have hw:Zao m 1 3=false:=decide_eq_false h1
   simp[ZFG,Zw3,hw,Za8,h1])
theorem Zqg(m p q:Int):Zaj Try.prog 63 [.agg (.ints .i64 [m,p,q])] (.int .i64 (Za8 m p q)) none:=
 start (ZGC m p q) fun C hC=>tgo hC ZqE ZSz (by
  by_cases h1:1≤m∧m≤3
  ·have h3:=ZjE h1
   have hw:Zao m 1 3=true:=decide_eq_true h1
   have e:(1:Int)*2^(m+1).toNat=2*stN m:=by
    rw[show (m+1).toNat=m.toNat+1 by omega,Int.pow_succ,Int.one_mul,Int.mul_comm];rfl
   simp only[ZEJ,ZaV,List.getD_cons_zero,ZcU,ZsM,e,ZhX,ZDB]
   have hr:ZaM [p,q] 1 (2*stN m-1)=Za8 m p q:=by
    have hc:Za8 m p q=if(1≤p∧p≤2*stN m-1)∧(1≤q∧q≤2*stN m-1)then 0 else 2:=by
     unfold Za8;rw[if_neg (fun h=>h h1)]
    rw[hc]
    unfold ZaM
    by_cases h2:(1≤p∧p≤2*stN m-1)∧(1≤q∧q≤2*stN m-1)
    ·rw[if_pos h2,if_pos (by simp[Zao,h2])]
    ·rw[if_neg h2,if_neg (fun h=>h2 (by simpa[Zao]using h))]
   simp[hw,hr];omega
  ·have hw:Zao m 1 3=false:=decide_eq_false h1
   simp[ZEJ,hw,Za8,h1])
def Zv6(m s b:Int):Int:=b*stN m+s
def nxS(m s b:Int):Int:=Zv6 m s b/2
def oS(m g s b:Int):Int:=ZvW (Zv6 m s b) g
theorem Zo6(r k:Nat)(hr:r≤15)(hk:k≤15):std.bits .or .i64 (r:Int) (k:Int)=((r ||| k:Nat):Int):=by
 have h1:∀m:Nat,m≤15→(BitVec.ofInt 64 (m:Int)).toNat=m:=fun m hm=>by
  rw[BitVec.ofInt_natCast,BitVec.toNat_ofNat];exact Nat.mod_eq_of_lt (by omega)
 show IntKind.i64.wrap ((BitVec.ofInt 64 (r:Int) ||| BitVec.ofInt 64 (k:Int)).toNat:Int)=_
 rw[BitVec.toNat_or,h1 r hr,h1 k hk]
 have:r ||| k<2^4:=Nat.or_lt_two_pow (by omega) (by omega)
 rw[IntKind.wrap_i64]
 omega
def ZfL(m p q s b:Int):Bool:=decide (Za8 m p q=0∧0≤s∧s<stN m∧(b=0∨b=1))
theorem Zt0{m s b:Int}(hm:m=1∨m=2∨m=3)(hs:0≤s∧s<stN m)(hb:b=0∨b=1):0≤Zv6 m s b∧Zv6 m s b≤15∧0≤nxS m s b∧nxS m s b<stN m∧Zv6 m s b<2*stN m:=by
 unfold nxS Zv6
 rcases hm with rfl |rfl |rfl<;>rcases hb with rfl |rfl<;>simp[stN]at hs⊢ <;>omega
theorem Zw0:∀m,m<4→∀B,B<2→∀S,S<8→S<2^m→B*2^m ||| S=B*2^m+S:=by decide
theorem ZMj{m s b:Int}(hm:m=1∨m=2∨m=3)(hs:0≤s∧s<stN m)(hb:b=0∨b=1):std.bits .or .i64 (b*2^m.toNat) s=Zv6 m s b:=by
 obtain⟨S,rfl⟩:=Int.eq_ofNat_of_zero_le hs.1
 have hS:=hs.2
 unfold Zv6
 rcases hm with rfl |rfl |rfl<;>rcases hb with rfl |rfl<;>simp[stN]at hS⊢
 all_goals
  first
  |(have:=Zo6 0 S (by omega) (by omega);simpa using this)
  |(have:=Zo6 2 S (by omega) (by omega);have h2:=Zw0 1 (by omega) 1 (by omega) S (by omega) (by omega);simp at h2;rw[h2]at this;simpa using this)
  |(have:=Zo6 4 S (by omega) (by omega);have h2:=Zw0 2 (by omega) 1 (by omega) S (by omega) (by omega);simp at h2;rw[h2]at this;simpa using this)
  |(have:=Zo6 8 S (by omega) (by omega);have h2:=Zw0 3 (by omega) 1 (by omega) S (by omega) (by omega);simp at h2;rw[h2]at this;simpa using this)
theorem ZqR{m:Int}(hm:m=1∨m=2∨m=3):(2:Int)^m.toNat≤8∧2≤(2:Int)^m.toNat:=by
 rcases hm with rfl |rfl |rfl<;>decide
theorem Zro(m p q s b:Int)(hv:Za8 m p q=0)(hs:0≤s∧s<stN m)(hb:b=0∨b=1):Zaj Try.prog 68 [.agg (.ints .i64 [m,p,q]), .int .i64 s, .int .i64 b] (.tup [.int .i64 (nxS m s b), .agg (.ints .i64 [oS m p s b,oS m q s b])]) none:=
 start (ZFM m p q s b) fun C hC=>tgo hC ZqE ZQW (by
  obtain⟨hm,p1,p2,q1,q2,p3,q3⟩:=Zaz hv
  obtain⟨r0,r1,r2,r3,r4⟩:=Zt0 hm hs hb
  have hw:=ZqR hm
  have hst:=ZjE (m:=m) (by omega)
  have hb2:0≤b*2^m.toNat∧b*2^m.toNat≤8:=by rcases hb with rfl |rfl<;>omega
  have e:b*2^m.toNat+s=Zv6 m s b:=rfl
  simp only[ZOw,ZaV,List.getD_cons_zero,List.getD_cons_succ,ZsM,ZcU,e,Zl1]
  have hd:(Zv6 m s b).tdiv 2=nxS m s b:=Int.tdiv_eq_ediv_of_nonneg r0
  rw[hd]
  simp[oS]
  omega)
theorem ZpY(m p q s b:Int)(hv:Za8 m p q=0)(hs:0≤s∧s<stN m)(hb:b=0∨b=1):Zaj Try.prog 82 [.agg (.ints .i64 [m,p,q]), .int .i64 s, .int .i64 b] (.tup [.int .i64 (nxS m s b), .agg (.ints .i64 [oS m p s b,oS m q s b])]) none:=by
 obtain⟨hm,p1,p2,q1,q2,p3,q3⟩:=Zaz hv
 obtain⟨r0,r1,r2,r3,r4⟩:=Zt0 hm hs hb
 have hw:=ZqR hm
 have hb2:0≤b*2^m.toNat∧b*2^m.toNat≤8:=by rcases hb with rfl |rfl<;>omega
 have ho:=ZMj hm hs hb
 obtain⟨R,hR⟩:=Int.eq_ofNat_of_zero_le r0
 obtain⟨P,rfl⟩:=Int.eq_ofNat_of_zero_le (show 0≤p by omega)
 obtain⟨Q,rfl⟩:=Int.eq_ofNat_of_zero_le (show 0≤q by omega)
 have b0:∀k:Nat,k≤15→0≤std.bits .and .i64 (R:Int) (k:Int)∧std.bits .and .i64 (R:Int) (k:Int)≤15:=fun k hk=>by
  rw[ZpD R k (by omega) hk];have:= @Nat.and_le_left R k;omega
 have u0:∀k:Nat,k≤15→std.inR .u64 (std.bits .and .i64 (R:Int) (k:Int))=true:=fun k hk=>by
  have:=b0 k hk
  exact decide_eq_true ⟨by show(0:Int)≤_;omega,by show _≤(18446744073709551615:Int);omega⟩
 have hk:∀k:Nat,k≤15→Int.tmod ((ZyG (Int.toNat (std.bits .and .i64 (R:Int) (k:Int))):Nat):Int) 2=oS m k s b:=fun k hk=>by
  rw[ZpD R k (by omega) hk,oS,hR];rfl
 refine start (ZGA m P Q s b) fun C hC=>tgo hC ZqE ZRz ?_
 simp only[ZKr,ZaV,List.getD_cons_zero,ZsM,ho,hR,ZDB]
 have two:Ev C (ZeJ R [(P:Int),(Q:Int)] (2:Nat) [oS m P s b,oS m Q s b]) (Zdr R [(P:Int),(Q:Int)] (2:Nat) [oS m P s b,oS m Q s b]) (Zav 82 (.tup [.int .i64 (nxS m s b), .agg (.ints .i64 [oS m P s b,oS m Q s b])]) none):=tgo hC ZqE Ziz (by
  have:nxS m s b=(R:Int).fdiv 2:=by unfold nxS;rw[hR,Int.fdiv_eq_ediv];simp
  simp[Ze7,this])
 have one:Ev C (ZeJ R [(P:Int),(Q:Int)] (1:Nat) [oS m P s b,0]) (Zdr R [(P:Int),(Q:Int)] (1:Nat) [oS m P s b,0]) (Zav 82 (.tup [.int .i64 (nxS m s b), .agg (.ints .i64 [oS m P s b,oS m Q s b])]) none):=tgo hC ZqE Ziz (by
  simp[Ze7,b0 Q (by omega),u0 Q (by omega),hk Q (by omega)]
  simpa using two)
 have zero:Ev C (ZeJ R [(P:Int),(Q:Int)] (0:Nat) [0,0]) (Zdr R [(P:Int),(Q:Int)] (0:Nat) [0,0]) (Zav 82 (.tup [.int .i64 (nxS m s b), .agg (.ints .i64 [oS m P s b,oS m Q s b])]) none):=tgo hC ZqE Ziz (by
  simp[Ze7,b0 P (by omega),u0 P (by omega),hk P (by omega)]
  simpa using one)
 simp
 exact⟨by omega,by simpa using zero⟩
def sfE(m:Int)(so:List Int):Int:=if so.length%2≠0∨(so.length:Int)<2*m then 10 else if 2*(300+m)<(so.length:Int)then 8 else ZaM so (-7) 7
def k28i:Ctr:=⟨28,0,fun _ a=>match a with |[.agg (.ints .i64 [m,p,q])]=>some (true, .int .i64 (Za8 m p q),none) |_=>none⟩
theorem ZG1:k28i.OK Try.prog:=fun pa args r fr h=>by
 simp only[k28i]at h
 split at h
 ·cases h
  exact Zqs _ _ _
 ·cases h
def k28g:Ctr:=⟨28,0,fun _ a=>match a with |[.agg (.gen [.int .i64 m, .int .i64 p, .int .i64 q])]=>some (true, .int .i64 (Za8 m p q),none) |_=>none⟩
theorem ZFl:k28g.OK Try.prog:=fun pa args r fr h=>by
 simp only[k28g]at h
 split at h
 ·cases h
  exact Zec (xs:=[]) (r:=.ints .i64 [_,_,_]) (Zqs _ _ _) rfl
 ·cases h
def k63i:Ctr:=⟨63,0,fun _ a=>match a with |[.agg (.ints .i64 [m,p,q])]=>some (true, .int .i64 (Za8 m p q),none) |_=>none⟩
theorem ZGy:k63i.OK Try.prog:=fun pa args r fr h=>by
 simp only[k63i]at h
 split at h
 ·cases h
  exact Zqg _ _ _
 ·cases h
def k63g:Ctr:=⟨63,0,fun _ a=>match a with |[.agg (.gen [.int .i64 m, .int .i64 p, .int .i64 q])]=>some (true, .int .i64 (Za8 m p q),none) |_=>none⟩
theorem ZFn:k63g.OK Try.prog:=fun pa args r fr h=>by
 simp only[k63g]at h
 split at h
 ·cases h
  exact Zec (xs:=[]) (r:=.ints .i64 [_,_,_]) (Zqg _ _ _) rfl
 ·cases h
def k68i:Ctr:=⟨68,0,fun _ a=>match a with |[.agg (.ints .i64 [m,p,q]), .int .i64 s, .int .i64 b]=>some (decide (ZfL m p q s b=true), .tup [.int .i64 (nxS m s b), .agg (.ints .i64 [oS m p s b,oS m q s b])],none) |_=>none⟩
theorem ZEE:k68i.OK Try.prog:=fun pa args r fr h=>by
 simp only[k68i]at h
 split at h
 ·simp only[Option.some.injEq,Prod.mk.injEq,decide_eq_true_eq]at h
  obtain⟨h0,rfl,rfl⟩:=h
  exact Zro _ _ _ _ _ (of_decide_eq_true h0).1 ⟨(of_decide_eq_true h0).2.1,(of_decide_eq_true h0).2.2.1⟩ (of_decide_eq_true h0).2.2.2
 ·cases h
def k68g:Ctr:=⟨68,0,fun _ a=>match a with |[.agg (.gen [.int .i64 m, .int .i64 p, .int .i64 q]), .int .i64 s, .int .i64 b]=>some (decide (ZfL m p q s b=true), .tup [.int .i64 (nxS m s b), .agg (.ints .i64 [oS m p s b,oS m q s b])],none) |_=>none⟩
theorem ZFh:k68g.OK Try.prog:=fun pa args r fr h=>by
 simp only[k68g]at h
 split at h
 ·simp only[Option.some.injEq,Prod.mk.injEq,decide_eq_true_eq]at h
  obtain⟨h0,rfl,rfl⟩:=h
  exact Zec (xs:=[]) (r:=.ints .i64 [_,_,_]) (Zro _ _ _ _ _ (of_decide_eq_true h0).1 ⟨(of_decide_eq_true h0).2.1,(of_decide_eq_true h0).2.2.1⟩ (of_decide_eq_true h0).2.2.2) rfl
 ·cases h
def k82i:Ctr:=⟨82,0,fun _ a=>match a with |[.agg (.ints .i64 [m,p,q]), .int .i64 s, .int .i64 b]=>some (decide (ZfL m p q s b=true), .tup [.int .i64 (nxS m s b), .agg (.ints .i64 [oS m p s b,oS m q s b])],none) |_=>none⟩
theorem ZF8:k82i.OK Try.prog:=fun pa args r fr h=>by
 simp only[k82i]at h
 split at h
 ·simp only[Option.some.injEq,Prod.mk.injEq,decide_eq_true_eq]at h
  obtain⟨h0,rfl,rfl⟩:=h
  exact ZpY _ _ _ _ _ (of_decide_eq_true h0).1 ⟨(of_decide_eq_true h0).2.1,(of_decide_eq_true h0).2.2.1⟩ (of_decide_eq_true h0).2.2.2
 ·cases h
def k82g:Ctr:=⟨82,0,fun _ a=>match a with |[.agg (.gen [.int .i64 m, .int .i64 p, .int .i64 q]), .int .i64 s, .int .i64 b]=>some (decide (ZfL m p q s b=true), .tup [.int .i64 (nxS m s b), .agg (.ints .i64 [oS m p s b,oS m q s b])],none) |_=>none⟩
theorem ZGI:k82g.OK Try.prog:=fun pa args r fr h=>by
 simp only[k82g]at h
 split at h
 ·simp only[Option.some.injEq,Prod.mk.injEq,decide_eq_true_eq]at h
  obtain⟨h0,rfl,rfl⟩:=h
  exact Zec (xs:=[]) (r:=.ints .i64 [_,_,_]) (ZpY _ _ _ _ _ (of_decide_eq_true h0).1 ⟨(of_decide_eq_true h0).2.1,(of_decide_eq_true h0).2.2.1⟩ (of_decide_eq_true h0).2.2.2) rfl
 ·cases h
def N3:List Ctr:=[k28i,k28g,k63i,k63g,k68i,k68g,k82i,k82g]++N2
theorem ZQN:Zay Try.prog N3:=⟨ZG1,⟨ZFl,⟨ZGy,⟨ZFn,⟨ZEE,⟨ZFh,⟨ZF8,⟨ZGI,ZqE⟩⟩⟩⟩⟩⟩⟩⟩
end Go.Proofs.Ytklbmkllepkjcaa
/- Contracts as a list. No condition. -/
namespace Go.Proofs.Ytklbmkllepkjcaa
def Zam(so:List Int):Int:=((so.length/2:Nat):Int)
theorem Zu4(m p q:Int)(so:List Int)(h:so.length≤1000000):Zaj Try.prog 84 [.agg (.gen [.int .i64 m, .int .i64 p, .int .i64 q, .list (.ints .i64 so)])] (.int .i64 (Zam so)) none:=
 start (ZGF m p q so) fun C hC=>tgo hC ZaT ZSg (by
  have ht:((so.length:Nat):Int).tdiv 2=Zam so:=rfl
  have hb:0≤Zam so∧Zam so≤1000000:=by unfold Zam;omega
  simp only[ZMY,Zl1,Za2,Zcq,ht]
  simp;omega)
theorem ZrL(m p q:Int)(so:List Int)(h:1≤m∧m≤3):Zaj Try.prog 86 [.agg (.gen [.int .i64 m, .int .i64 p, .int .i64 q, .list (.ints .i64 so)])] (.int .i64 (stN m)) none:=
 start (ZHT m p q so) fun C hC=>tgo hC ZaT ZRY (by
  have h2:=ZjE h
  unfold stN at h2⊢
  simp[ZNw];omega)
def gaI(so:List Int)(t:Nat)(a b:Int):Int:=so.getD (2*t) 0*(1-2*a)+so.getD (2*t+1) 0*(1-2*b)
def ZGU(a:Int):Bool:=decide (a=0∨a=1)
theorem Zdb{so:List Int}(h:ZaM so (-7) 7=0)(k:Nat): -7≤so.getD k 0∧so.getD k 0≤7:=by
 unfold ZaM at h
 split at h
 ·rename_i hall
  by_cases hk:k<so.length
  ·have:=List.all_eq_true.1 hall _ (Zbq (d:=0) hk)
   simpa[Zao]using of_decide_eq_true this
  ·rw[List.getD_eq_getElem?_getD,List.getElem?_eq_none (by omega)];simp
 ·cases h
theorem ZRp{so:List Int}(h:ZaM so (-7) 7=0)(t:Nat){a b:Int}(ha:a=0∨a=1)(hb:b=0∨b=1): -14≤gaI so t a b∧gaI so t a b≤14:=by
 have h1:=Zdb h (2*t)
 have h2:=Zdb h (2*t+1)
 unfold gaI
 rcases ha with rfl |rfl<;>rcases hb with rfl |rfl<;>omega
theorem Zym(so l:List Int)(t:Int)(hl:l.length=2∧ZGU (l.getD 0 0)=true∧ZGU (l.getD 1 0)=true)(hs:ZaM so (-7) 7=0∧so.length≤1000000)(ht:0≤t∧2*t+1<so.length):
 Zaj Try.prog 69 [.agg (.ints .i64 l), .list (.ints .i64 so), .int .i64 t] (.int .i64 (gaI so t.toNat (l.getD 0 0) (l.getD 1 0))) none:=by
 obtain⟨T,rfl⟩:=Int.eq_ofNat_of_zero_le ht.1
 have ha:=of_decide_eq_true hl.2.1
 have hb:=of_decide_eq_true hl.2.2
 have h1:=Zdb hs.1 (2*T)
 have h2:=Zdb hs.1 (2*T+1)
 have e1:(2*(T:Int)).toNat=2*T:=by omega
 have e2:(2*(T:Int)+1).toNat=2*T+1:=by omega
 refine start (ZFN l so T) fun C hC=>tgo hC Zgq ZQY ?_
 simp only[ZLI,ZaV,Zjn,ZhX,ZcU,ZaF,e1,e2]
 generalize hx:so.getD (2*T) 0=x at*
 generalize hy:so.getD (2*T+1) 0=y at*
 generalize hu:l.getD 0 0=u at*
 generalize hv:l.getD 1 0=v at*
 have r:gaI so T u v=x*(1-2*u)+y*(1-2*v):=by unfold gaI;rw[hx,hy]
 rcases ha with rfl |rfl<;>rcases hb with rfl |rfl<;>simp[r,hl.1]<;>omega
theorem Zxg(n:Int)(h:n=2∨n=4∨n=8):Zaj Try.prog 122 [.list (.flts .f32 [3351465984]), .int .i64 n] (.row 0 0) (some ⟨118,1, .flts .f32 (List.replicate n.toNat 3351465984)⟩):=by
 rcases h with rfl |rfl |rfl
 ·exact Zac (n:=100000) (l:=[]) follows Zae trivial (by kernel_rfl)
 ·exact Zac (n:=100000) (l:=[]) follows Zae trivial (by kernel_rfl)
 ·exact Zac (n:=100000) (l:=[]) follows Zae trivial (by kernel_rfl)
def ZPM(n:Int):Bool:=decide (n=2∨n=4∨n=8)
def gaG(so l:List Int)(t:Int):Bool:=decide (l.length=2∧ZGU (l.getD 0 0)=true∧ZGU (l.getD 1 0)=true)&&decide (ZaM so (-7) 7=0∧so.length≤1000000)&&decide (0≤t∧2*t+1<so.length)
theorem gaG_iff{so l:List Int}{t:Int} :gaG so l t=true↔(l.length=2∧ZGU (l.getD 0 0)=true∧ZGU (l.getD 1 0)=true)∧(ZaM so (-7) 7=0∧so.length≤1000000)∧0≤t∧2*t+1<so.length:=by
 unfold gaG;simp only[Bool.and_eq_true,decide_eq_true_eq];exact and_assoc
def k84:Ctr:=⟨84,0,fun _ a=>match a with |[.agg (.gen [.int .i64 _, .int .i64 _, .int .i64 _, .list (.ints .i64 so)])]=>some (decide (so.length≤1000000), .int .i64 (Zam so),none) |_=>none⟩
theorem ZOT:k84.OK Try.prog:=fun pa args r fr h=>by
 simp only[k84]at h
 split at h
 ·simp only[Option.some.injEq,Prod.mk.injEq,decide_eq_true_eq]at h
  obtain⟨h0,rfl,rfl⟩:=h
  exact Zu4 _ _ _ _ h0
 ·cases h
def k86:Ctr:=⟨86,0,fun _ a=>match a with |[.agg (.gen [.int .i64 m, .int .i64 _, .int .i64 _, .list (.ints .i64 _)])]=>some (decide (Zes m=true), .int .i64 (stN m),none) |_=>none⟩
theorem ZI3:k86.OK Try.prog:=fun pa args r fr h=>by
 simp only[k86]at h
 split at h
 ·simp only[Option.some.injEq,Prod.mk.injEq,decide_eq_true_eq]at h
  obtain⟨h0,rfl,rfl⟩:=h
  exact ZrL _ _ _ _ (of_decide_eq_true h0)
 ·cases h
def k69:Ctr:=⟨69,0,fun _ a=>match a with |[.agg (.ints .i64 l), .list (.ints .i64 so), .int .i64 t]=>some (decide (gaG so l t=true), .int .i64 (gaI so t.toNat (l.getD 0 0) (l.getD 1 0)),none) |_=>none⟩
theorem ZLR:k69.OK Try.prog:=fun pa args r fr h=>by
 simp only[k69]at h
 split at h
 ·simp only[Option.some.injEq,Prod.mk.injEq,decide_eq_true_eq]at h
  obtain⟨h0,rfl,rfl⟩:=h
  exact Zym _ _ _ (gaG_iff.1 h0).1 (gaG_iff.1 h0).2.1 (gaG_iff.1 h0).2.2
 ·cases h
def k122:Ctr:=⟨122,0,fun _ a=>match a with |[.list (.flts .f32 [3351465984]), .int .i64 n]=>some (decide (ZPM n=true), .row 0 0,some ⟨118,1, .flts .f32 (List.replicate n.toNat 3351465984)⟩) |_=>none⟩
theorem ZEw:k122.OK Try.prog:=fun pa args r fr h=>by
 simp only[k122]at h
 split at h
 ·simp only[Option.some.injEq,Prod.mk.injEq,decide_eq_true_eq]at h
  obtain⟨h0,rfl,rfl⟩:=h
  exact Zxg _ (of_decide_eq_true h0)
 ·cases h
def N4:List Ctr:=[k84,k86,k69,k122]++N3
theorem ZhU:Zay Try.prog N4:=⟨ZOT,⟨ZI3,⟨ZLR,⟨ZEw,ZQN⟩⟩⟩⟩
end Go.Proofs.Ytklbmkllepkjcaa
/- Paths of functions, printed by the explorer (Gx). No condition. -/
namespace Go.Proofs.Ytklbmkllepkjcaa
set_option maxRecDepth 100000
set_option linter.unusedVariables false
def ZCH(m g0 g1:Int)(xs:List Int):AFrame:=vF 108 9 [(0,AV.agg (Row.gen [.int .i64 m, .int .i64 g0, .int .i64 g1, .list (.ints .i64 xs)]))] [.code a108.code] [.tmp 2]
def ZRL(m g0 g1:Int)(xs:List Int):List AFrame:=[(ZCH m g0 g1 xs)]
theorem ZBE(m g0 g1:Int)(xs:List Int):Zal tab 108 [AV.agg (Row.gen [.int .i64 m, .int .i64 g0, .int .i64 g1, .list (.ints .i64 xs)])]=some (ZCH m g0 g1 xs):=rfl
def ZCh(A:Ar)(K:KT)(F:FT)(m g0 g1:Int)(xs:List Int):Prop:=let u0:=A.sub (Zam xs) m;rB [A.inR .i64 u0,decide (List.length xs≤1000000)] (F (AV.int .i64 u0) none)
theorem ZOP{A:Ar}{K:KT}{F:FT}{M:MT}{m g0 g1:Int}{xs:List Int} :Zah A tab N4 108 K F M (.run 9 (.fn)) (ZRL m g0 g1 xs) []=ZCh A K F m g0 g1 xs:=by kernel_rfl
def ZK1(m g0 g1:Int)(xs:List Int):AFrame:=vF 16 178 [(0,AV.agg (Row.gen [.int .i64 m, .int .i64 g0, .int .i64 g1])),vL 1 xs] [.code a16.code] [.tmp 4,.tmp 5]
def ZVx(m g0 g1:Int)(xs:List Int):List AFrame:=[(ZK1 m g0 g1 xs)]
theorem ZFE(m g0 g1:Int)(xs:List Int):Zal tab 16 [AV.agg (Row.gen [.int .i64 m, .int .i64 g0, .int .i64 g1]),AV.list (.ints .i64 xs)]=some (ZK1 m g0 g1 xs):=rfl
def ZlH(m g0 g1:Int)(xs:List Int)(n0 n1:Int)(l2:List Nat)(l3:List (List Int))(n4:Int):List AFrame:=[vF 16 178 [vL 1 xs,vP 2 16003,vI 6 n0,vI 7 n1,vR 8 16031,vI 9 n4] (vC ZKa ZRU) [.tmp 4,.tmp 5]]
def ZiM(m g0 g1:Int)(xs:List Int)(n0 n1:Int)(l2:List Nat)(l3:List (List Int))(n4:Int):Zaa:=[(16003,{ base:=0,blks:=[Blk.row 24 3 (Row.gen [AV.agg (Row.gen [AV.int .i64 m,AV.int .i64 g0,AV.int .i64 g1])])] }),(16031,{ base:=0,blks:=[Blk.row 25 1 (Row.refs 1000016 l2)] }),(1000016,{ base:=0,blks:=[],sym:=Sym.ints 3 1 .i64 l3 })]
abbrev Zna(m g0 g1:Int)(xs:List Int)(n0 n1:Int)(l2:List Nat)(l3:List (List Int))(n4:Int):List AFrame×Zaa:=(ZlH m g0 g1 xs n0 n1 l2 l3 n4,ZiM m g0 g1 xs n0 n1 l2 l3 n4)
def Zha(m g0 g1:Int)(xs:List Int)(n1 n5:Int)(l6:List Nat)(l7:List (List Int)):List AFrame:=[vF 16 178 [vL 1 xs,vP 2 16003,vI 7 n1,vR 8 16031,vI 10 n5] (vC ZJ8 ZQ7) [.tmp 4,.tmp 5]]
def Zfn(m g0 g1:Int)(xs:List Int)(n1 n5:Int)(l6:List Nat)(l7:List (List Int)):Zaa:=[(16003,{ base:=0,blks:=[Blk.row 24 3 (Row.gen [AV.agg (Row.gen [AV.int .i64 m,AV.int .i64 g0,AV.int .i64 g1])])] }),(16031,{ base:=0,blks:=[Blk.row 25 1 (Row.refs 1000016 l6)] }),(1000016,{ base:=0,blks:=[],sym:=Sym.ints 3 1 .i64 l7 })]
abbrev Znb(m g0 g1:Int)(xs:List Int)(n1 n5:Int)(l6:List Nat)(l7:List (List Int)):List AFrame×Zaa:=(Zha m g0 g1 xs n1 n5 l6 l7,Zfn m g0 g1 xs n1 n5 l6 l7)
def Zhs(m g0 g1:Int)(xs:List Int)(n1 n5:Int)(l8:List Nat)(l9:List (List Int))(n10:Int):List AFrame:=[vF 16 178 [vL 1 xs,vP 2 16003,vI 7 n1,vR 8 16031,vI 10 n5,vI 11 n10] (vC ZJO ZSr) [.tmp 4,.tmp 5]]
def Ze8(m g0 g1:Int)(xs:List Int)(n1 n5:Int)(l8:List Nat)(l9:List (List Int))(n10:Int):Zaa:=[(16003,{ base:=0,blks:=[Blk.row 24 3 (Row.gen [AV.agg (Row.gen [AV.int .i64 m,AV.int .i64 g0,AV.int .i64 g1])])] }),(16031,{ base:=0,blks:=[Blk.row 25 1 (Row.refs 1000016 l8)] }),(1000016,{ base:=0,blks:=[],sym:=Sym.ints 3 1 .i64 l9 })]
abbrev Zim(m g0 g1:Int)(xs:List Int)(n1 n5:Int)(l8:List Nat)(l9:List (List Int))(n10:Int):List AFrame×Zaa:=(Zhs m g0 g1 xs n1 n5 l8 l9 n10,Ze8 m g0 g1 xs n1 n5 l8 l9 n10)
def ZlG(m g0 g1:Int)(xs:List Int)(n1:Int)(l6:List Nat)(l7:List (List Int))(n11 n12:Int)(l13:List Int):List AFrame:=[vF 16 178 [vL 1 xs,vP 2 16003,vI 7 n1,vR 8 16031,vR 15 16171,vI 16 n11,vI 17 n12] (vC ZIi ZRi) [.tmp 4,.tmp 5]]
def ZiN(m g0 g1:Int)(xs:List Int)(n1:Int)(l6:List Nat)(l7:List (List Int))(n11 n12:Int)(l13:List Int):Zaa:=[(16003,{ base:=0,blks:=[Blk.row 24 3 (Row.gen [AV.agg (Row.gen [AV.int .i64 m,AV.int .i64 g0,AV.int .i64 g1])])] }),(16031,{ base:=0,blks:=[Blk.row 25 1 (Row.refs 1000016 l6)] }),vK 16171 l13,(1000016,{ base:=0,blks:=[],sym:=Sym.ints 3 1 .i64 l7 })]
abbrev Zjd(m g0 g1:Int)(xs:List Int)(n1:Int)(l6:List Nat)(l7:List (List Int))(n11 n12:Int)(l13:List Int):List AFrame×Zaa:=(ZlG m g0 g1 xs n1 l6 l7 n11 n12 l13,ZiN m g0 g1 xs n1 l6 l7 n11 n12 l13)
def Zeh(m g0 g1:Int)(xs:List Int)(n1 n5:Int)(l8:List Nat)(n10:Int)(l14:List (List Int))(n15:Int):List AFrame:=[vF 16 178 [vL 1 xs,vP 2 16003,vI 7 n1,vR 8 16031,vI 10 n5,vI 11 n10,vI 12 n15] (vC ZLY ZPu) [.tmp 4,.tmp 5]]
def Zdt(m g0 g1:Int)(xs:List Int)(n1 n5:Int)(l8:List Nat)(n10:Int)(l14:List (List Int))(n15:Int):Zaa:=[(16003,{ base:=0,blks:=[Blk.row 24 3 (Row.gen [AV.agg (Row.gen [AV.int .i64 m,AV.int .i64 g0,AV.int .i64 g1])])] }),(16031,{ base:=0,blks:=[Blk.row 25 1 (Row.refs 1000016 l8)] }),(1000016,{ base:=0,blks:=[],sym:=Sym.ints 3 1 .i64 l14 })]
abbrev Zdj(m g0 g1:Int)(xs:List Int)(n1 n5:Int)(l8:List Nat)(n10:Int)(l14:List (List Int))(n15:Int):List AFrame×Zaa:=(Zeh m g0 g1 xs n1 n5 l8 n10 l14 n15,Zdt m g0 g1 xs n1 n5 l8 n10 l14 n15)
def ZLS(A:Ar)(K:KT)(F:FT)(m g0 g1:Int)(xs:List Int):Prop:=let u0:=A.quo (A.int (A.len xs)) 2;let u2:=A.add u0 1;let u1:=A.repF (A.nat u2) 0;let u3:=A.nat u0;rB [Zad (Nat.blt u3 (A.lenF u1)) true,Zad (A.le 0 u0) (Nat.blt u3 (A.lenF u1)),Zad (A.le 0 (stN m)) (A.le (stN m) 4294967296),decide (Zes m=true),Zad (A.le 0 u2) (Zad (A.le u2 4294967296) true),A.inR .i64 u2,A.inR .i64 (A.sub u0 m),Zad (A.not (A.eq 2 0)) (A.inR .i64 u0)] (K (Zna m g0 g1 xs u0 (A.sub u0 m) (A.setF u1 u3 1) ([]::List.append [] [A.rep (A.nat (stN m)) 0]) 1))
theorem ZSd{A:Ar}{K:KT}{F:FT}{M:MT}{m g0 g1:Int}{xs:List Int} :Zah A tab N4 16 K F M (.run 47 (.hd)) (ZVx m g0 g1 xs) []=ZLS A K F m g0 g1 xs:=by kernel_rfl
def Zjq(A:Ar)(K:KT)(F:FT)(m g0 g1:Int)(xs:List Int)(n0 n1:Int)(l2:List Nat)(l3:List (List Int))(n4:Int):Prop:=let u2:=A.nat n0;let u0:=A.nthF l2 u2;let u1:=A.len (List.getD l3 u0 []);let u3:=A.nat n4;rB [decide (Zes m=true)] (bB (A.lt n4 (stN m)) (rB [A.inR .i64 (A.add n4 1),Zad (Nat.blt u0 (List.length l3)) (Nat.blt u3 u1),Zad (Nat.blt u0 (List.length l3)) (Zad (A.le 0 n4) (Nat.blt u3 u1)),Zad (Nat.blt u2 (A.lenF l2)) true,Zad (A.le 0 n0) (Nat.blt u2 (A.lenF l2))] (K (Zna m g0 g1 xs n0 n1 l2 (List.set l3 (A.nthF l2 u2-0) (A.set (List.getD l3 u0 []) u3 (-2000000))) (A.add n4 1)))) (rB [A.inR .i64 (A.sub n0 1)] (K (Znb m g0 g1 xs n1 (A.sub n0 1) l2 l3))))
theorem Zm8{A:Ar}{K:KT}{F:FT}{M:MT}{m g0 g1:Int}{xs:List Int}{n0 n1:Int}{l2:List Nat}{l3:List (List Int)}{n4:Int} :Zah A tab N4 16 K F M (.run 9 (.tf (.run 20 (.hd)) (.run 11 (.hd)))) (ZlH m g0 g1 xs n0 n1 l2 l3 n4) (ZiM m g0 g1 xs n0 n1 l2 l3 n4)=Zjq A K F m g0 g1 xs n0 n1 l2 l3 n4:=by kernel_rfl
def Zjo(A:Ar)(K:KT)(F:FT)(m g0 g1:Int)(xs:List Int)(n1 n5:Int)(l6:List Nat)(l7:List (List Int)):Prop:=let u0:=A.nat n5;bB (A.le 0 n5) (rB [Zad (Nat.blt u0 (A.lenF l6)) true,Zad (A.le 0 n5) (Nat.blt u0 (A.lenF l6)),Zad (A.le 0 (stN m)) (A.le (stN m) 4294967296),decide (Zes m=true)] (K (Zim m g0 g1 xs n1 n5 (A.setF l6 u0 (0+List.length (List.map (fun l=>Blk.row 3 1 (.ints .i64 l)) l7))) (List.append l7 [A.rep (A.nat (stN m)) 0]) 0))) (K (Zjd m g0 g1 xs n1 l6 l7 0 0 []))
theorem ZoX{A:Ar}{K:KT}{F:FT}{M:MT}{m g0 g1:Int}{xs:List Int}{n1 n5:Int}{l6:List Nat}{l7:List (List Int)} :Zah A tab N4 16 K F M (.run 7 (.tf (.run 21 (.hd)) (.run 18 (.hd)))) (Zha m g0 g1 xs n1 n5 l6 l7) (Zfn m g0 g1 xs n1 n5 l6 l7)=Zjo A K F m g0 g1 xs n1 n5 l6 l7:=by kernel_rfl
def Zis(A:Ar)(K:KT)(F:FT)(m g0 g1:Int)(xs:List Int)(n1 n5:Int)(l8:List Nat)(l9:List (List Int))(n10:Int):Prop:=let u2:=A.nat n5;let u0:=A.nthF l8 u2;let u1:=A.len (List.getD l9 u0 []);let u3:=A.nat n10;rB [decide (Zes m=true)] (bB (A.lt n10 (stN m)) (rB [Zad (Nat.blt u0 (List.length l9)) (Nat.blt u3 u1),Zad (Nat.blt u0 (List.length l9)) (Zad (A.le 0 n10) (Nat.blt u3 u1)),Zad (Nat.blt u2 (A.lenF l8)) true,Zad (A.le 0 n5) (Nat.blt u2 (A.lenF l8))] (K (Zdj m g0 g1 xs n1 n5 l8 n10 (List.set l9 (A.nthF l8 u2-0) (A.set (List.getD l9 u0 []) u3 (-2000000))) 0))) (rB [A.inR .i64 (A.sub n5 1)] (K (Znb m g0 g1 xs n1 (A.sub n5 1) l8 l9))))
theorem Znn{A:Ar}{K:KT}{F:FT}{M:MT}{m g0 g1:Int}{xs:List Int}{n1 n5:Int}{l8:List Nat}{l9:List (List Int)}{n10:Int} :Zah A tab N4 16 K F M (.run 9 (.tf (.run 21 (.hd)) (.run 9 (.hd)))) (Zhs m g0 g1 xs n1 n5 l8 l9 n10) (Ze8 m g0 g1 xs n1 n5 l8 l9 n10)=Zis A K F m g0 g1 xs n1 n5 l8 l9 n10:=by kernel_rfl
def Zfx(A:Ar)(K:KT)(F:FT)(m g0 g1:Int)(xs:List Int)(n1:Int)(l6:List Nat)(l7:List (List Int))(n11 n12:Int)(l13:List Int):Prop:=let u1:=A.add n12 1;let ue:=A.nat u1;let u4:=A.nthF l6 ue;let u7:=A.nat (nxS m n11 0);let u3:=A.sub3 [oS m g0 n11 0,oS m g1 n11 0] 0 2;let u0:=A.add (A.nth (List.getD l7 u4 []) u7) (gaI xs (Int.toNat n12) (List.getD u3 0 0) (List.getD u3 1 0));let ud:=A.nat n12;let u2:=A.nthF l6 ud;let u5:=A.nthF l6 (A.nat 0);let u6:=A.lenF l6;let u8:=A.len [oS m g0 n11 0,oS m g1 n11 0];let u9:=A.len (List.getD l7 u2 []);let ua:=A.len (List.getD l7 u4 []);let ub:=A.len (List.getD l7 u5 []);let uc:=A.nat n11;bB (A.lt n12 n1) (rB [Zad (Nat.blt u2 (List.length l7)) (Zad (Nat.blt uc u9) true),Zad (Nat.blt u2 (List.length l7)) (Zad (A.le 0 n11) (Nat.blt uc u9)),Zad (Nat.blt ud u6) true,Zad (A.le 0 n12) (Nat.blt ud u6),A.inR .i64 u0,decide (gaG xs u3 n12=true),Nat.ble 2 u8,Zad (Nat.blt u4 (List.length l7)) (Zad (Nat.blt u7 ua) true),Zad (Nat.blt u4 (List.length l7)) (Zad (A.le 0 (nxS m n11 0)) (Nat.blt u7 ua)),Zad (Nat.blt ue u6) true,Zad (A.le 0 u1) (Nat.blt ue u6),A.inR .i64 u1,Nat.beq u8 2,Nat.blt 0 (A.len [0,0]),decide (ZfL m g0 g1 n11 0=true)] (bB (A.not (A.eq u0 (A.nth (List.getD l7 u2 []) uc))) (rB [A.inR .i64 u1,Nat.ble (A.len l13+A.len [1]) 4294967296,List.all [AV.int .i64 1] fun x=>AV.bx x&&Nat.beq (Zag A x) 1,Nat.beq (A.len [oS m g0 n11 1,oS m g1 n11 1]) 2,decide (ZfL m g0 g1 n11 1=true)] (K (Zjd m g0 g1 xs n1 l6 l7 (nxS m n11 1) u1 (A.app l13 [1])))) (rB [A.inR .i64 u1,Nat.ble (A.len l13+A.len [0]) 4294967296,List.all [AV.int .i64 0] fun x=>AV.bx x&&Nat.beq (Zag A x) 1] (K (Zjd m g0 g1 xs n1 l6 l7 (nxS m n11 0) u1 (A.app l13 [0])))))) (rB [Zad (Nat.blt u5 (List.length l7)) (Zad (Nat.blt (A.nat 0) ub) true),Zad (Nat.blt u5 (List.length l7)) (Zad (A.le 0 0) (Nat.blt (A.nat 0) ub)),Zad (Nat.blt (A.nat 0) u6) true,Zad (A.le 0 0) (Nat.blt (A.nat 0) u6)] (F (AV.tup [AV.row 0 0,AV.int .i64 (A.nth (List.getD l7 u5 []) (A.nat 0))]) (some { e:=3,sz:=1,r:=.ints .i64 l13 })))
theorem Znj{A:Ar}{K:KT}{F:FT}{M:MT}{m g0 g1:Int}{xs:List Int}{n1:Int}{l6:List Nat}{l7:List (List Int)}{n11 n12:Int}{l13:List Int} :Zah A tab N4 16 K F M (.run 8 (.tf (.run 24 (.tf (.run 31 (.hd)) (.run 18 (.hd)))) (.run 5 (.fn)))) (ZlG m g0 g1 xs n1 l6 l7 n11 n12 l13) (ZiN m g0 g1 xs n1 l6 l7 n11 n12 l13)=Zfx A K F m g0 g1 xs n1 l6 l7 n11 n12 l13:=by kernel_rfl
def ZbQ(A:Ar)(K:KT)(F:FT)(m g0 g1:Int)(xs:List Int)(n1 n5:Int)(l8:List Nat)(n10:Int)(l14:List (List Int))(n15:Int):Prop:=let u7:=A.add n5 1;let uf:=A.nat u7;let u1:=A.nthF l8 uf;let u3:=A.nat (nxS m n10 n15);let ug:=A.nth (List.getD l14 u1 []) u3;let u9:=A.sub3 [oS m g0 n10 n15,oS m g1 n10 n15] 0 2;let u0:=A.add ug (gaI xs (Int.toNat n5) (List.getD u9 0 0) (List.getD u9 1 0));let ue:=A.nat n5;let u2:=A.nthF l8 ue;let u4:=A.len (List.getD l14 u1 []);let u5:=A.len (List.getD l14 u2 []);let ub:=A.nat n10;let uh:=A.add n15 1;let u6:=K (Zdj m g0 g1 xs n1 n5 l8 n10 (List.set l14 (A.nthF l8 ue-0) (A.set (List.getD l14 u2 []) ub (A.max (A.nth (List.getD l14 u2 []) ub) u0))) uh);let u8:=A.lenF l8;let ua:=A.len [oS m g0 n10 n15,oS m g1 n10 n15];let uc:=rB [A.inR .i64 uh] (K (Zdj m g0 g1 xs n1 n5 l8 n10 l14 uh));let ud:=rB [A.inR .i64 (A.add n10 1)] (K (Zim m g0 g1 xs n1 n5 l8 l14 (A.add n10 1)));bB (A.lt n15 2) (bB (A.eq n15 0) (rB [Zad (Nat.blt u1 (List.length l14)) (Zad (Nat.blt u3 u4) true),Zad (Nat.blt u1 (List.length l14)) (Zad (A.le 0 (nxS m n10 n15)) (Nat.blt u3 u4)),Zad (Nat.blt uf u8) true,Zad (A.le 0 u7) (Nat.blt uf u8),A.inR .i64 u7,Nat.beq ua 2,Nat.blt 0 (A.len [0,0]),decide (ZfL m g0 g1 n10 n15=true)] (bB (A.lt (-1000000) ug) (rB [A.inR .i64 uh,Zad (Nat.blt u2 (List.length l14)) (Nat.blt ub u5),Zad (Nat.blt u2 (List.length l14)) (Zad (A.le 0 n10) (Nat.blt ub u5)),A.inR .i64 u0,decide (gaG xs u9 n5=true),Nat.ble 2 ua,Zad (Nat.blt u1 (List.length l14)) (Zad (Nat.blt u3 u4) true),Zad (Nat.blt u1 (List.length l14)) (Zad (A.le 0 (nxS m n10 n15)) (Nat.blt u3 u4)),Zad (Nat.blt uf u8) true,Zad (A.le 0 u7) (Nat.blt uf u8),A.inR .i64 u7,Zad (Nat.blt u2 (List.length l14)) (Zad (Nat.blt ub u5) true),Zad (Nat.blt u2 (List.length l14)) (Zad (A.le 0 n10) (Nat.blt ub u5)),Zad (Nat.blt ue u8) true,Zad (A.le 0 n5) (Nat.blt ue u8),Zad (Nat.blt ue u8) true,Zad (A.le 0 n5) (Nat.blt ue u8)] u6) uc)) (bB (A.lt n5 n1) (rB [Zad (Nat.blt u1 (List.length l14)) (Zad (Nat.blt u3 u4) true),Zad (Nat.blt u1 (List.length l14)) (Zad (A.le 0 (nxS m n10 n15)) (Nat.blt u3 u4)),Zad (Nat.blt uf u8) true,Zad (A.le 0 u7) (Nat.blt uf u8),A.inR .i64 u7,Nat.beq ua 2,Nat.blt 0 (A.len [0,0]),decide (ZfL m g0 g1 n10 n15=true)] (bB (A.lt (-1000000) ug) (rB [A.inR .i64 uh,Zad (Nat.blt u2 (List.length l14)) (Nat.blt ub u5),Zad (Nat.blt u2 (List.length l14)) (Zad (A.le 0 n10) (Nat.blt ub u5)),A.inR .i64 u0,decide (gaG xs u9 n5=true),Nat.ble 2 ua,Zad (Nat.blt u1 (List.length l14)) (Zad (Nat.blt u3 u4) true),Zad (Nat.blt u1 (List.length l14)) (Zad (A.le 0 (nxS m n10 n15)) (Nat.blt u3 u4)),Zad (Nat.blt uf u8) true,Zad (A.le 0 u7) (Nat.blt uf u8),A.inR .i64 u7,Zad (Nat.blt u2 (List.length l14)) (Zad (Nat.blt ub u5) true),Zad (Nat.blt u2 (List.length l14)) (Zad (A.le 0 n10) (Nat.blt ub u5)),Zad (Nat.blt ue u8) true,Zad (A.le 0 n5) (Nat.blt ue u8),Zad (Nat.blt ue u8) true,Zad (A.le 0 n5) (Nat.blt ue u8)] u6) uc)) ud)) ud
theorem ZnJ{A:Ar}{K:KT}{F:FT}{M:MT}{m g0 g1:Int}{xs:List Int}{n1 n5:Int}{l8:List Nat}{n10:Int}{l14:List (List Int)}{n15:Int} :Zah A tab N4 16 K F M (.run 7 (.tf (.ty (.ty (.tf (.ty (.ty (.alt [true,true] (.ty (.run 2 (.ty (.run 30 (.tf (.run 9 (.hd)) (.run 9 (.hd))))))) (.no)))) (.fy (.fy (.alt [true,false] (.ty (.run 2 (.tf (.run 30 (.tf (.run 9 (.hd)) (.run 9 (.hd)))) (.run 9 (.hd))))) (.no))))))) (.fy (.fy (.run 3 (.fy (.fy (.run 2 (.fy (.run 9 (.hd))))))))))) (Zeh m g0 g1 xs n1 n5 l8 n10 l14 n15) (Zdt m g0 g1 xs n1 n5 l8 n10 l14 n15)=ZbQ A K F m g0 g1 xs n1 n5 l8 n10 l14 n15:=by kernel_rfl
end Go.Proofs.Ytklbmkllepkjcaa
/- Contracts as a list. No condition. -/
namespace Go.Proofs.Ytklbmkllepkjcaa
theorem ZuB(m p q:Int)(so:List Int)(h:so.length≤1000000∧1≤m∧m≤3):Zaj Try.prog 108 [.agg (.gen [.int .i64 m, .int .i64 p, .int .i64 q, .list (.ints .i64 so)])] (.int .i64 (Zam so-m)) none:=
 start (ZBE m p q so) fun C hC=>tgo hC ZhU ZOP (by
  have hb:0≤Zam so∧Zam so≤1000000:=by unfold Zam;omega
  simp[ZCh];omega)
theorem Zo5(m g s b:Int):oS m g s b=0∨oS m g s b=1:=by
 unfold oS ZvW
 rcases Nat.mod_two_eq_zero_or_one (ZyG ((Zv6 m s b).toNat &&& g.toNat))with h |h<;>rw[h]<;>simp
theorem ZtM(m g s b:Int):ZGU (oS m g s b)=true:=decide_eq_true (Zo5 m g s b)
def gnI(m p q:Int)(so:List Int)(t:Nat)(s b:Int):Int:=gaI so t (oS m p s b) (oS m q s b)
theorem Zlo{m p q:Int}{so:List Int}(h:ZaM so (-7) 7=0)(t:Nat)(s b:Int): -14≤gnI m p q so t s b∧gnI m p q so t s b≤14:=ZRp h t (Zo5 _ _ _ _) (Zo5 _ _ _ _)
def pT(T k:Nat):List Nat:=(List.range (T+1)).map fun j=>if T-j<k then T-j+1 else 0
theorem Zrn(T k:Nat):(pT T k).length=T+1:=by simp[pT]
theorem Zmx{T k j:Nat}(hj:j≤T)(hk:T-j<k):(pT T k).getD j 0=T-j+1:=by
 unfold pT
 rw[List.getD_eq_getElem?_getD,List.getElem?_map,List.getElem?_range (by omega)]
 simp[hk]
theorem ZNG(T:Nat):(List.replicate (T+1) 0).set T 1=pT T 1:=by
 apply List.ext_getElem?
 intro j
 unfold pT
 rw[List.getElem?_set,List.getElem?_map,List.getElem?_replicate,List.length_replicate]
 by_cases hj:j<T+1
 ·rw[List.getElem?_range hj]
  by_cases h:T=j
  ·subst h;simp
  ·simp[h,hj,show ¬T-j=0 by omega]
 ·rw[List.getElem?_eq_none (by simp;omega)]
  simp[hj,show ¬T=j by omega]
theorem ZN8{T k:Nat}(hk:k≤T):(pT T k).set (T-k) (k+1)=pT T (k+1):=by
 apply List.ext_getElem?
 intro j
 unfold pT
 rw[List.getElem?_set,List.getElem?_map,List.getElem?_map,List.length_map,List.length_range]
 by_cases hj:j<T+1
 ·rw[List.getElem?_range hj]
  by_cases h:T-k=j
  ·subst h;simp[show T-k<T+1 by omega,show T-(T-k)=k by omega]
  ·have:(T-j<k+1)↔(T-j<k):=by omega
   simp[h,this]
 ·rw[List.getElem?_eq_none (by simp;omega)]
  simp[show ¬T-k=j by omega]
def rR(k:Nat)(f:Nat→List Int):List (List Int):=[]::(List.range k).map f
theorem ZgV(k:Nat)(f:Nat→List Int):(rR k f).length=k+1:=by simp[rR]
theorem ZDT{k i:Nat}(f:Nat→List Int)(l:List (List Int))(h:i<k):(rR k f++l).getD (i+1) []=f i:=by
 unfold rR
 rw[List.cons_append,List.getD_cons_succ,List.getD_eq_getElem?_getD,List.getElem?_append_left (by simpa using h),List.getElem?_map,List.getElem?_range h];rfl
theorem ZsH{k i:Nat}(f:Nat→List Int)(h:i<k):(rR k f).getD (i+1) []=f i:=by
 have:=ZDT f [] h;rwa[List.append_nil]at this
theorem ZrJ(k:Nat)(f:Nat→List Int)(x:List Int):(rR k f++[x]).getD (k+1) []=x:=by
 rw[List.getD_eq_getElem?_getD,List.getElem?_append_right (by rw[ZgV];omega),ZgV];simp
theorem ZxM(k:Nat)(f:Nat→List Int)(x y:List Int):(rR k f++[x]).set (k+1) y=rR k f++[y]:=by
 rw[List.set_append,if_neg (by rw[ZgV];omega),ZgV];simp
theorem Zwn(k:Nat)(f:Nat→List Int):rR k f++[f k]=rR (k+1) f:=by
 simp[rR,List.range_succ]
def Zl8(S:Nat)(v:Nat→Int)(s:Nat):List Int:=(List.range s).map v++List.replicate (S-s) 0
theorem Zum{S s:Nat}(v:Nat→Int)(h:s≤S):(Zl8 S v s).length=S:=by simp[Zl8];omega
theorem ZAC{S s:Nat}(v:Nat→Int)(h:s<S)(x:Int):(Zl8 S v s).set s x=(List.range s).map v++x::List.replicate (S-s-1) 0:=by
 unfold Zl8
 rw[List.set_append,if_neg (by simp),show S-s=(S-s-1)+1 by omega,List.replicate_succ]
 simp
theorem ZlE{S s:Nat}(v:Nat→Int)(h:s<S):(Zl8 S v s).set s (v s)=Zl8 S v (s+1):=by
 rw[ZAC v h,Zl8,List.range_succ,List.map_append,List.append_assoc,show S-(s+1)=S-s-1 by omega];rfl
theorem ZqI(S:Nat)(v:Nat→Int):Zl8 S v 0=List.replicate S 0:=by simp[Zl8]
theorem ZtJ(S:Nat)(v:Nat→Int):Zl8 S v S=(List.range S).map v:=by simp[Zl8]
section
variable (m p q:Int)(so:List Int)
def stS:Nat:=(stN m).toNat
def Zab:Nat:=so.length/2
def Zb4:Nat:=so.length/2-m.toNat
def upR(D:List Int)(t:Nat)(s:Nat)(b:Int)(cur:Int):Int:=if -1000000<D.getD (nxS m s b).toNat 0 then max cur (D.getD (nxS m s b).toNat 0+gnI m p q so t s b)else cur
def ZnN(D:List Int)(t s:Nat):Int:=if t<Zb4 m so then upR m p q so D t s 1 (upR m p q so D t s 0 (-2000000))else upR m p q so D t s 0 (-2000000)
def dpR:Nat→List Int
 |0=>(List.range (stS m)).map fun s=>if s=0 then 0 else -2000000
 |n+1=>(List.range (stS m)).map fun s=>ZnN m p q so (dpR n) (Zab so-1-n) s
def tbR:Nat→Nat→Int→List Int
 |0,_,_=>[]
 |j+1,t,s=>if(dpR m p q so (Zab so-t-1)).getD (nxS m s 0).toNat 0+gnI m p q so t s 0=(dpR m p q so (Zab so-t)).getD s.toNat 0 then 0::tbR j (t+1) (nxS m s 0)else 1::tbR j (t+1) (nxS m s 1)
end
theorem ZBy(l:List Int)(s:Nat):l.set s (l.getD s 0)=l:=by
 apply List.ext_getElem?
 intro j
 rw[List.getElem?_set]
 split
 ·rename_i hj;subst hj;rw[List.getD_eq_getElem?_getD];split
  ·rename_i hl;rw[List.getElem?_eq_getElem hl];rfl
  ·rename_i hl;rw[List.getElem?_eq_none (by omega)]
 ·rfl
structure OkC (m p q:Int) (so:List Int):Prop where
 cv:Za8 m p q=0
 sf:sfE m so=0
theorem OkC.soft{m p q:Int}{so:List Int}(h:OkC m p q so):ZaM so (-7) 7=0∧so.length%2=0∧2*m≤so.length∧so.length≤606:=by
 have hm:=(Zaz h.cv).1
 have:=h.sf
 unfold sfE at this
 split at this
 ·cases this
 ·rename_i h1
  split at this
  ·cases this
  ·rename_i h2
   exact⟨this,by omega,by omega,by omega⟩
theorem Zcp{m:Int}(h:m=1∨m=2∨m=3):(stS m=2∨stS m=4∨stS m=8)∧(stS m:Int)=stN m:=by
 have h2:=ZjE (m:=m) (by omega)
 unfold stS;omega
theorem Zb6{m p q:Int}{so:List Int}(h:OkC m p q so){s:Nat}(hs:s<stS m){b:Int}(hb:b=0∨b=1):ZfL m p q s b=true∧0≤nxS m s b∧(nxS m s b).toNat<stS m:=by
 have hm:=(Zaz h.cv).1
 have h2:=Zcp hm
 obtain⟨r0,r1,r2,r3,r4⟩:=Zt0 (m:=m) (s:=s) (b:=b) hm (by omega) hb
 exact⟨decide_eq_true ⟨h.cv,by omega,by omega,hb⟩,r2,by omega⟩
section
variable (m p q:Int)(so:List Int)
theorem ZhL(n:Nat):(dpR m p q so n).length=stS m:=by cases n<;>simp[dpR]
theorem Zpi{s:Nat}(h:s<stS m):(dpR m p q so 0).getD s 0=if s=0 then 0 else -2000000:=by
 rw[dpR,List.getD_eq_getElem?_getD,List.getElem?_map,List.getElem?_range h];rfl
theorem Zko{n s:Nat}(h:s<stS m):(dpR m p q so (n+1)).getD s 0=ZnN m p q so (dpR m p q so n) (Zab so-1-n) s:=by
 rw[dpR,List.getD_eq_getElem?_getD,List.getElem?_map,List.getElem?_range h];rfl
end
theorem ZF5{m p q:Int}{so D:List Int}{U:Int}(hg:ZaM so (-7) 7=0)(t s:Nat)(b cur:Int)(hD:∀j, -2000000≤D.getD j 0∧D.getD j 0≤U)(hc: -2000000≤cur∧cur≤U+14): -2000000≤upR m p q so D t s b cur∧upR m p q so D t s b cur≤U+14:=by
 have h1:=Zlo (m:=m) (p:=p) (q:=q) hg t s b
 have h2:=hD (nxS m s b).toNat
 unfold upR
 split
 ·omega
 ·exact hc
theorem Zvs{m p q:Int}{so:List Int}(hg:ZaM so (-7) 7=0):∀n j:Nat, -2000000≤(dpR m p q so n).getD j 0∧(dpR m p q so n).getD j 0≤14*n
 |0,j=>by
  by_cases h:j<stS m
  ·rw[Zpi m p q so h];split<;>simp
  ·rw[List.getD_eq_getElem?_getD,List.getElem?_eq_none (by rw[ZhL];omega)];simp
 |n+1,j=>by
  have ih:=Zvs (m:=m) (p:=p) (q:=q) hg n
  by_cases h:j<stS m
  ·rw[Zko m p q so h,ZnN]
   have h0:=ZF5 (m:=m) (p:=p) (q:=q) hg (Zab so-1-n) j 0 (-2000000) ih (by omega)
   split
   ·have:=ZF5 (m:=m) (p:=p) (q:=q) hg (Zab so-1-n) j 1 _ ih h0
    omega
   ·omega
  ·rw[List.getD_eq_getElem?_getD,List.getElem?_eq_none (by rw[ZhL];omega)];simp;omega
@[simp] theorem ZaQ (l:List Nat):std.lenF l=l.length:=rfl
@[simp] theorem Za5 (l:List Nat) (j:Nat):std.nthF l j=l.getD j 0:=rfl
@[simp] theorem ZwJ (l:List Nat) (j x:Nat):std.setF l j x=l.set j x:=rfl
@[simp] theorem ZSR (n x:Nat):std.repF n x=List.replicate n x:=rfl
@[simp] theorem ZTy (a b:List Nat):std.appF a b=a++b:=rfl
section
variable {C:Ctx}(hC:C.P=Try.prog)(m p q:Int)(so:List Int)(h:OkC m p q so)
include hC h
theorem R3(j t s:Nat)(ht:t+j+1=Zab so)(hs:s<stS m)(row:List Int)(hrow:row.length=stS m)(hb1: -2000000≤row.getD s 0∧row.getD s 0≤100000)(b:Int)(hb:b=0∨b=1∧t<Zb4 m so)(r:AV)(fr:Option Fresh)
 (hn:Ev C (Zeh m p q so (Zam so-m) t (pT (Zab so) (j+2)) s (rR (j+1) (dpR m p q so)++[row.set s (upR m p q so (dpR m p q so j) t s b (row.getD s 0))]) (b+1)) (Zdt m p q so (Zam so-m) t (pT (Zab so) (j+2)) s (rR (j+1) (dpR m p q so)++[row.set s (upR m p q so (dpR m p q so j) t s b (row.getD s 0))]) (b+1)) (Zav 16 r fr)):
 Ev C (Zeh m p q so (Zam so-m) t (pT (Zab so) (j+2)) s (rR (j+1) (dpR m p q so)++[row]) b) (Zdt m p q so (Zam so-m) t (pT (Zab so) (j+2)) s (rR (j+1) (dpR m p q so)++[row]) b) (Zav 16 r fr):=by
 obtain⟨hg,_,hl2,hl3⟩:=h.soft
 have hT:(Zab so:Int)=Zam so:=rfl
 have hlen:2*Zab so≤so.length:=by unfold Zab;omega
 have e1:(pT (Zab so) (j+2)).getD t 0=j+2:=by rw[Zmx (by omega) (by omega)];omega
 have e2:(pT (Zab so) (j+2)).getD (t+1) 0=j+1:=by rw[Zmx (by omega) (by omega)];omega
 have e3:(rR (j+1) (dpR m p q so)++[row]).getD (j+1) []=dpR m p q so j:=ZDT _ _ (by omega)
 have e4:(rR (j+1) (dpR m p q so)++[row]).getD (j+2) []=row:=ZrJ _ _ _
 have e5:(rR (j+1) (dpR m p q so)).length=j+2:=ZgV _ _
 have e6:∀y,(rR (j+1) (dpR m p q so)++[row]).set (j+2) y=rR (j+1) (dpR m p q so)++[y]:=fun y=>ZxM _ _ _ _
 have e7:=Zrn (Zab so) (j+2)
 have hd:=Zvs (m:=m) (p:=p) (q:=q) hg j
 have hdl:=ZhL m p q so j
 have hgl:=Zlo (m:=m) (p:=p) (q:=q) hg t s b
 refine tgo hC ZhU ZnJ ?_
 have hbb:b=0∨b=1:=by omega
 obtain⟨s1,s2,s3⟩:=Zb6 h hs hbb
 have hga:gaG so [oS m p s b,oS m q s b] t=true:=gaG_iff.2 ⟨⟨rfl,ZtM _ _ _ _,ZtM _ _ _ _⟩,⟨hg,by omega⟩,by omega,by omega⟩
 have hd1:=hd (nxS m s b).toNat
 have hm:=(Zaz h.cv).1
 have hbt:t<Zb4 m so↔(t:Int)<Zam so-m:=by unfold Zb4 Zam;omega
 by_cases hc: -1000000<(dpR m p q so j).getD (nxS m s b).toNat 0
 ·have hu:upR m p q so (dpR m p q so j) t s b (row.getD s 0)=max (row.getD s 0) ((dpR m p q so j).getD (nxS m s b).toNat 0+gaI so t (oS m p s b) (oS m q s b)):=by unfold upR;rw[if_pos hc];rfl
  rw[hu]at hn
  unfold gnI at hgl
  rcases hb with rfl |⟨rfl,hb⟩
  ·simp[-List.getD_eq_getElem?_getD,List.getD_cons_zero,List.getD_cons_succ,ZbQ,e1,e2,e3,e4,e5,e6,e7,s1,hga,hc,hrow,hdl,s2,s3,hs]at hn⊢
   refine⟨?_,?_,hn⟩<;>omega
  ·simp[-List.getD_eq_getElem?_getD,List.getD_cons_zero,List.getD_cons_succ,ZbQ,e1,e2,e3,e4,e5,e6,e7,s1,hga,hc,hrow,hdl,s2,s3,hs,hbt.1 hb]at hn⊢
   refine⟨?_,?_,hn⟩<;>omega
 ·have hu:upR m p q so (dpR m p q so j) t s b (row.getD s 0)=row.getD s 0:=by unfold upR;rw[if_neg hc]
  rw[hu,ZBy]at hn
  rcases hb with rfl |⟨rfl,hb⟩
  ·simp[-List.getD_eq_getElem?_getD,List.getD_cons_zero,List.getD_cons_succ,ZbQ,e1,e2,e3,e4,e5,e6,e7,s1,hga,hc,hrow,hdl,s2,s3,hs]at hn⊢
   refine⟨?_,hn⟩;omega
  ·simp[-List.getD_eq_getElem?_getD,List.getD_cons_zero,List.getD_cons_succ,ZbQ,e1,e2,e3,e4,e5,e6,e7,s1,hga,hc,hrow,hdl,s2,s3,hs,hbt.1 hb]at hn⊢
   refine⟨?_,hn⟩;omega
theorem R3x(j t s:Nat)(ht:t+j+1=Zab so)(hs:s<stS m)(rows:List (List Int))(b:Int)(hb:b=2∨b=1∧¬t<Zb4 m so)(r:AV)(fr:Option Fresh)
 (hn:Ev C (Zhs m p q so (Zam so-m) t (pT (Zab so) (j+2)) rows ((s+1:Nat):Int)) (Ze8 m p q so (Zam so-m) t (pT (Zab so) (j+2)) rows ((s+1:Nat):Int)) (Zav 16 r fr)):
 Ev C (Zeh m p q so (Zam so-m) t (pT (Zab so) (j+2)) s rows b) (Zdt m p q so (Zam so-m) t (pT (Zab so) (j+2)) s rows b) (Zav 16 r fr):=by
 have hm:=(Zaz h.cv).1
 have h2:=Zcp hm
 have hbt:t<Zb4 m so↔(t:Int)<Zam so-m:=by unfold Zb4 Zam;omega
 refine tgo hC ZhU ZnJ ?_
 rcases hb with rfl |⟨rfl,hb⟩
 ·simp[ZbQ]at hn⊢
  exact⟨by omega,hn⟩
 ·rw[hbt]at hb
  simp[ZbQ,hb]at hn⊢
  exact⟨by omega,hn⟩
theorem R2(j t:Nat)(ht:t+j+1=Zab so)(r:AV)(fr:Option Fresh)
 (hn:Ev C (Zha m p q so (Zam so-m) ((t:Int)-1) (pT (Zab so) (j+2)) (rR (j+2) (dpR m p q so))) (Zfn m p q so (Zam so-m) ((t:Int)-1) (pT (Zab so) (j+2)) (rR (j+2) (dpR m p q so))) (Zav 16 r fr)):
 ∀k s:Nat,s+k=stS m→
 Ev C (Zhs m p q so (Zam so-m) t (pT (Zab so) (j+2)) (rR (j+1) (dpR m p q so)++[Zl8 (stS m) (ZnN m p q so (dpR m p q so j) t) s]) s) (Ze8 m p q so (Zam so-m) t (pT (Zab so) (j+2)) (rR (j+1) (dpR m p q so)++[Zl8 (stS m) (ZnN m p q so (dpR m p q so j) t) s]) s) (Zav 16 r fr):=by
 obtain⟨hg,_,hl2,hl3⟩:=h.soft
 have hlen:2*Zab so≤so.length:=by unfold Zab;omega
 have hm:=(Zaz h.cv).1
 have h2:=Zcp hm
 have hmm:Zes m=true:=decide_eq_true (by omega)
 have e1:(pT (Zab so) (j+2)).getD t 0=j+2:=by rw[Zmx (by omega) (by omega)];omega
 have e4:∀x,(rR (j+1) (dpR m p q so)++[x]).getD (j+2) []=x:=fun x=>ZrJ _ _ _
 have e5:(rR (j+1) (dpR m p q so)).length=j+2:=ZgV _ _
 have e6:∀x y,(rR (j+1) (dpR m p q so)++[x]).set (j+2) y=rR (j+1) (dpR m p q so)++[y]:=fun x y=>ZxM _ _ _ _
 have e7:=Zrn (Zab so) (j+2)
 have hd:=Zvs (m:=m) (p:=p) (q:=q) hg j
 intro k
 induction k with
 |zero=>
  intro s hs
  refine tgo hC ZhU Znn ?_
  have e8:dpR m p q so (j+1)=Zl8 (stS m) (ZnN m p q so (dpR m p q so j) t) s:=by
   rw[show s=stS m by omega,ZtJ,dpR,show Zab so-1-j=t by omega]
  have e9:(s:Int)=stN m:=by omega
  rw[←Zwn,e8]at hn
  simp[-List.getD_eq_getElem?_getD,Zis,hmm,e9]
  exact⟨by omega,hn⟩
 |succ k ih=>
  intro s hs
  refine tgo hC ZhU Znn ?_
  have e9:(s:Int)<stN m:=by omega
  have e10:=Zum (ZnN m p q so (dpR m p q so j) t) (show s≤stS m by omega)
  have hs':s<stS m:=by omega
  simp[-List.getD_eq_getElem?_getD,Zis,hmm,e9,e1,e4,e5,e6,e7,e10,hs']
  refine⟨by omega,?_⟩
  have e11:∀x,((Zl8 (stS m) (ZnN m p q so (dpR m p q so j) t) s).set s x).getD s 0=x:=by
   intro x;rw[List.getD_eq_getElem?_getD,List.getElem?_set];simp[e10,hs']
  have e12:∀x y,((Zl8 (stS m) (ZnN m p q so (dpR m p q so j) t) s).set s x).set s y=(Zl8 (stS m) (ZnN m p q so (dpR m p q so j) t) s).set s y:=by
   intro x y;simp
  have e13:∀x,((Zl8 (stS m) (ZnN m p q so (dpR m p q so j) t) s).set s x).length=stS m:=by
   intro x;simp[e10]
  have hu0:=ZF5 (m:=m) (p:=p) (q:=q) hg t s 0 (-2000000) hd (by omega)
  have ih':=ih (s+1) (by omega)
  rw[←ZlE _ hs']at ih'
  apply R3 hC m p q so h j t s ht hs' _ (e13 _) (by rw[e11];omega) 0 (Or.inl rfl)
  rw[e11,e12]
  by_cases hb:t<Zb4 m so
  ·apply R3 hC m p q so h j t s ht hs' _ (e13 _) (by rw[e11];omega) _ (Or.inr ⟨rfl,hb⟩)
   rw[e11,e12]
   apply R3x hC m p q so h j t s ht hs' _ _ (Or.inl rfl)
   have:ZnN m p q so (dpR m p q so j) t s=upR m p q so (dpR m p q so j) t s (0+1) (upR m p q so (dpR m p q so j) t s 0 (-2000000)):=by rw[ZnN,if_pos hb];rfl
   rw[this]at ih'
   exact ih'
  ·apply R3x hC m p q so h j t s ht hs' _ _ (Or.inr ⟨rfl,hb⟩)
   have:ZnN m p q so (dpR m p q so j) t s=upR m p q so (dpR m p q so j) t s 0 (-2000000):=by rw[ZnN,if_neg hb]
   rw[this]at ih'
   exact ih'
theorem R0b:∀k t:Nat,t+k=Zb4 m so→∀(s:Int) (l:List Int),0≤s→s<stN m→l.length+k≤1000→
 Ev C (ZlG m p q so (Zam so-m) (pT (Zab so) (Zab so+1)) (rR (Zab so+1) (dpR m p q so)) s t l) (ZiN m p q so (Zam so-m) (pT (Zab so) (Zab so+1)) (rR (Zab so+1) (dpR m p q so)) s t l) (Zav 16 (.tup [.row 0 0, .int .i64 ((dpR m p q so (Zab so)).getD 0 0)]) (some ⟨3,1, .ints .i64 (l++tbR m p q so k t s)⟩)):=by
 obtain⟨hg,_,hl2,hl3⟩:=h.soft
 have hlen:2*Zab so≤so.length:=by unfold Zab;omega
 have hm:=(Zaz h.cv).1
 have h2:=Zcp hm
 have e5:(rR (Zab so+1) (dpR m p q so)).length=Zab so+2:=ZgV _ _
 have e7:=Zrn (Zab so) (Zab so+1)
 intro k
 induction k with
 |zero=>
  intro t ht s l h0 h1 hl
  refine tgo hC ZhU Znj ?_
  have hbt:¬(t:Int)<Zam so-m:=by unfold Zb4 at ht;unfold Zam;omega
  have e1:(pT (Zab so) (Zab so+1)).getD 0 0=Zab so+1:=by rw[Zmx (by omega) (by omega)];omega
  have e3:(rR (Zab so+1) (dpR m p q so)).getD (Zab so+1) []=dpR m p q so (Zab so):=ZsH _ (by omega)
  have hdl:=ZhL m p q so (Zab so)
  simp[-List.getD_eq_getElem?_getD,Zfx,hbt,e1,e3,e5,e7,hdl,tbR]
  omega
 |succ k ih=>
  intro t ht s l h0 h1 hl
  refine tgo hC ZhU Znj ?_
  have hbt:(t:Int)<Zam so-m:=by unfold Zb4 at ht;unfold Zam;omega
  have htt:t<Zab so:=by unfold Zb4 at ht;unfold Zab;omega
  have e1:(pT (Zab so) (Zab so+1)).getD t 0=Zab so-t+1:=by rw[Zmx (by omega) (by omega)]
  have e2:(pT (Zab so) (Zab so+1)).getD (t+1) 0=Zab so-t-1+1:=by rw[Zmx (by omega) (by omega)];omega
  have e3:(rR (Zab so+1) (dpR m p q so)).getD (Zab so-t+1) []=dpR m p q so (Zab so-t):=ZsH _ (by omega)
  have e4:(rR (Zab so+1) (dpR m p q so)).getD (Zab so-t-1+1) []=dpR m p q so (Zab so-t-1):=ZsH _ (by omega)
  have hdl:=ZhL m p q so (Zab so-t)
  have hdl1:=ZhL m p q so (Zab so-t-1)
  obtain⟨s',rfl⟩:=Int.eq_ofNat_of_zero_le h0
  obtain⟨s1,s2,s3⟩:=Zb6 h (s:=s') (b:=0) (by omega) (Or.inl rfl)
  obtain⟨z1,z2,z3⟩:=Zb6 h (s:=s') (b:=1) (by omega) (Or.inr rfl)
  have hga:gaG so [oS m p s' 0,oS m q s' 0] t=true:=gaG_iff.2 ⟨⟨rfl,ZtM _ _ _ _,ZtM _ _ _ _⟩,⟨hg,by omega⟩,by omega,by omega⟩
  have hd:=Zvs (m:=m) (p:=p) (q:=q) hg (Zab so-t-1) (nxS m s' 0).toNat
  have hgl:=Zlo (m:=m) (p:=p) (q:=q) hg t s' 0
  have hs':s'<stS m:=by omega
  have i0:=ih (t+1) (by omega) (nxS m s' 0) (l++[0]) s2 (by omega) (by simp;omega)
  have i1:=ih (t+1) (by omega) (nxS m s' 1) (l++[1]) z2 (by omega) (by simp;omega)
  unfold gnI at hgl
  have hT:(Zab so:Int)=Zam so:=rfl
  by_cases hq:(dpR m p q so (Zab so-t-1)).getD (nxS m s' 0).toNat 0+gaI so t (oS m p s' 0) (oS m q s' 0)=(dpR m p q so (Zab so-t)).getD s' 0
  ·have hd2:=Zvs (m:=m) (p:=p) (q:=q) hg (Zab so-t) s'
   simp[-List.getD_eq_getElem?_getD,List.getD_cons_zero,List.getD_cons_succ,Zfx,hbt,e1,e2,e3,e4,e5,e7,hdl,hdl1,s1,s2,s3,hga,hs',hq,tbR,gnI,AV.bx,Zag]at i0⊢
   refine⟨?_,?_,i0⟩<;>omega
  ·simp[-List.getD_eq_getElem?_getD,List.getD_cons_zero,List.getD_cons_succ,Zfx,hbt,e1,e2,e3,e4,e5,e7,hdl,hdl1,s1,s2,s3,hga,hs',hq,tbR,gnI,z1,AV.bx,Zag]at i1⊢
   refine⟨?_,?_,i1⟩<;>omega
theorem R1:∀j t:Nat,t+j=Zab so→
 Ev C (Zha m p q so (Zam so-m) ((t:Int)-1) (pT (Zab so) (j+1)) (rR (j+1) (dpR m p q so))) (Zfn m p q so (Zam so-m) ((t:Int)-1) (pT (Zab so) (j+1)) (rR (j+1) (dpR m p q so))) (Zav 16 (.tup [.row 0 0, .int .i64 ((dpR m p q so (Zab so)).getD 0 0)]) (some ⟨3,1, .ints .i64 (tbR m p q so (Zb4 m so) 0 0)⟩)):=by
 have hm:=(Zaz h.cv).1
 have h2:=Zcp hm
 have hmm:Zes m=true:=decide_eq_true (by omega)
 obtain⟨hg,_,hl2,hl3⟩:=h.soft
 have hlen:2*Zab so≤so.length:=by unfold Zab;omega
 intro j t
 induction t generalizing j with
 |zero=>
  intro ht
  refine tgo hC ZhU ZoX ?_
  have i:=R0b hC m p q so h (Zb4 m so) 0 (by omega) 0 [] (by omega) (by omega) (by simp;unfold Zb4;omega)
  rw[show j=Zab so by omega]
  simp[Zjo]at i⊢
  exact i
 |succ t ih=>
  intro ht
  refine tgo hC ZhU ZoX ?_
  have e5:(rR (j+1) (dpR m p q so)).length=j+2:=ZgV _ _
  have e7:=Zrn (Zab so) (j+1)
  have e8:(pT (Zab so) (j+1)).set t (j+2)=pT (Zab so) (j+2):=by
   have:=ZN8 (T:=Zab so) (k:=j+1) (by omega)
   rwa[show Zab so-(j+1)=t by omega]at this
  have e9:List.replicate (stN m).toNat 0=Zl8 (stS m) (ZnN m p q so (dpR m p q so j) t) 0:=(ZqI _ _).symm
  have i:=R2 hC m p q so h j t (by omega) _ _ (ih (j+1) (by omega)) (stS m) 0 (by omega)
  simp[Zjo,hmm,e5,e7,e8,e9]at i⊢
  refine⟨by omega,i⟩
def v0(s:Nat):Int:=if s=0 then 0 else -2000000
theorem R4(hT:0<Zab so):∀k s:Nat,s+k=stS m→1≤s→
 Ev C (ZlH m p q so (Zam so) (Zam so-m) (pT (Zab so) 1) (rR 0 (dpR m p q so)++[Zl8 (stS m) v0 s]) s) (ZiM m p q so (Zam so) (Zam so-m) (pT (Zab so) 1) (rR 0 (dpR m p q so)++[Zl8 (stS m) v0 s]) s) (Zav 16 (.tup [.row 0 0, .int .i64 ((dpR m p q so (Zab so)).getD 0 0)]) (some ⟨3,1, .ints .i64 (tbR m p q so (Zb4 m so) 0 0)⟩)):=by
 have hm:=(Zaz h.cv).1
 have h2:=Zcp hm
 have hmm:Zes m=true:=decide_eq_true (by omega)
 obtain⟨hg,_,hl2,hl3⟩:=h.soft
 have hlen:2*Zab so≤so.length:=by unfold Zab;omega
 have hTT:(Zab so:Int)=Zam so:=rfl
 have e1:(pT (Zab so) 1).getD (Zab so) 0=1:=by rw[Zmx (by omega) (by omega)];omega
 have e4:∀x,(rR 0 (dpR m p q so)++[x]).getD 1 []=x:=fun x=>ZrJ _ _ _
 have e5:(rR 0 (dpR m p q so)).length=1:=ZgV _ _
 have e6:∀x y,(rR 0 (dpR m p q so)++[x]).set 1 y=rR 0 (dpR m p q so)++[y]:=fun x y=>ZxM _ _ _ _
 have e7:=Zrn (Zab so) 1
 have eT:(Zam so).toNat=Zab so:=rfl
 intro k
 induction k with
 |zero=>
  intro s hs h1
  refine tgo hC ZhU Zm8 ?_
  have e9:(s:Int)=stN m:=by omega
  have i:=R1 hC m p q so h 0 (Zab so) (by omega)
  have e8:dpR m p q so 0=Zl8 (stS m) v0 s:=by
   rw[show s=stS m by omega,ZtJ,dpR];rfl
  rw[←Zwn,e8,hTT]at i
  simp[-List.getD_eq_getElem?_getD,Zjq,hmm,e9]at i⊢
  exact⟨by omega,i⟩
 |succ k ih=>
  intro s hs h1
  refine tgo hC ZhU Zm8 ?_
  have e9:(s:Int)<stN m:=by omega
  have hs':s<stS m:=by omega
  have e10:=Zum v0 (show s≤stS m by omega)
  have ih':=ih (s+1) (by omega) (by omega)
  have e11:=ZlE v0 hs'
  rw[←e11,show v0 s= -2000000 by unfold v0;rw[if_neg (by omega)]]at ih'
  simp[-List.getD_eq_getElem?_getD,Zjq,hmm,e9,eT,e1,e4,e5,e6,e7,e10,hs']at ih'⊢
  refine⟨by omega,ih'⟩
end
theorem ZwB(m p q:Int)(so:List Int)(h0:Za8 m p q=0)(h1:sfE m so=0):Zaj Try.prog 16 [.agg (.gen [.int .i64 m, .int .i64 p, .int .i64 q]), .list (.ints .i64 so)] (.tup [.row 0 0, .int .i64 ((dpR m p q so (Zab so)).getD 0 0)]) (some ⟨3,1, .ints .i64 (tbR m p q so (Zb4 m so) 0 0)⟩):=
 start (ZFE m p q so) fun C hC=>tgo hC ZhU ZSd (by
  have h:OkC m p q so:=⟨h0,h1⟩
  have hm:=(Zaz h0).1
  have h2:=Zcp hm
  have hmm:Zes m=true:=decide_eq_true (by omega)
  obtain⟨hg,_,hl2,hl3⟩:=h.soft
  have hlen:2*Zab so≤so.length∧1≤Zab so:=by unfold Zab;omega
  have ht:((so.length:Nat):Int).tdiv 2=Zam so:=rfl
  have hb:Zam so=Zab so:=rfl
  have i:=R4 hC m p q so h (by omega) (stS m-1) 1 (by omega) (by omega)
  have e1:Zl8 (stS m) v0 1=List.replicate (stN m).toNat 0:=by
   have:=ZlE v0 (S:=stS m) (s:=0) (by omega)
   rw[←this,ZqI]
   show(List.replicate (stS m) (0:Int)).set 0 0=List.replicate (stS m) 0
   cases hh:stS m with
   |zero=>rfl
   |succ n=>simp[List.replicate_succ]
  rw[e1,←ZNG]at i
  simp only[ZLS,Zl1,Za2,Zcq,ht]
  have e2:(Zam so+1).toNat=Zab so+1:=by omega
  have e3:(Zam so).toNat=Zab so:=rfl
  simp[rR,hmm,e2,e3]at i⊢
  refine⟨by omega,i⟩)
def bvI(m p q:Int)(so:List Int):Int:=(dpR m p q so (Zab so)).getD 0 0
def blI(m p q:Int)(so:List Int):List Int:=tbR m p q so (Zb4 m so) 0 0
def okI(m p q:Int)(so:List Int):Bool:=decide (Za8 m p q=0)&&decide (sfE m so=0)
theorem okI_iff{m p q:Int}{so:List Int} :okI m p q so=true↔OkC m p q so:=by
 unfold okI;simp only[Bool.and_eq_true,decide_eq_true_eq];exact⟨fun h=>⟨h.1,h.2⟩,fun h=>⟨h.1,h.2⟩⟩
def ZdR(m:Int)(so:List Int):Int:=Zam so-m
def ZzC(m:Int)(so:List Int):Bool:=decide (so.length≤1000000∧1≤m∧m≤3)
def k108:Ctr:=⟨108,0,fun _ a=>match a with |[.agg (.gen [.int .i64 m, .int .i64 _, .int .i64 _, .list (.ints .i64 so)])]=>some (decide (ZzC m so=true), .int .i64 (ZdR m so),none) |_=>none⟩
theorem ZF4:k108.OK Try.prog:=fun pa args r fr h=>by
 simp only[k108]at h
 split at h
 ·simp only[Option.some.injEq,Prod.mk.injEq,decide_eq_true_eq]at h
  obtain⟨h0,rfl,rfl⟩:=h
  exact ZuB _ _ _ _ (of_decide_eq_true h0)
 ·cases h
def k16:Ctr:=⟨16,0,fun _ a=>match a with |[.agg (.gen [.int .i64 m, .int .i64 p, .int .i64 q]), .list (.ints .i64 so)]=>some (decide (okI m p q so=true), .tup [.row 0 0, .int .i64 (bvI m p q so)],some ⟨3,1, .ints .i64 (blI m p q so)⟩) |_=>none⟩
theorem ZOW:k16.OK Try.prog:=fun pa args r fr h=>by
 simp only[k16]at h
 split at h
 ·simp only[Option.some.injEq,Prod.mk.injEq,decide_eq_true_eq]at h
  obtain⟨h0,rfl,rfl⟩:=h
  exact ZwB _ _ _ _ (okI_iff.1 h0).cv (okI_iff.1 h0).sf
 ·cases h
def N5:List Ctr:=[k108,k16]++N4
theorem Zev:Zay Try.prog N5:=⟨ZF4,⟨ZOW,ZhU⟩⟩
end Go.Proofs.Ytklbmkllepkjcaa
