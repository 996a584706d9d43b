/- Paths of functions, printed by the explorer (Gx). No condition. -/
import Derived.Test.YtjhldefnjghcdaaGreatSa
import Derived.KernelRfl
namespace Go.Proofs.YtjhldefnjghcdaaGreat
set_option maxRecDepth 100000
set_option linter.unusedVariables false
def ZKK(n:Int):AFrame:=vF 65 8 [(0,AV.int .u64 n)] [.code a65.code] [.tmp 2]
def ZPq(n:Int):List AFrame:=[(ZKK n)]
theorem ZvH(n:Int):Zak tab 65 [AV.int .u64 n]=some (ZKK n):=rfl
def ZCk(A:Ar)(K:KT)(F:FT)(n:Int):Prop:=let u3:=A.add (A.bits .and .u64 (A.shr n 1) 6148914691236517205) (A.bits .and .u64 n 6148914691236517205);let u1:=A.add (A.bits .and .u64 (A.shr u3 2) 3689348814741910323) (A.bits .and .u64 u3 3689348814741910323);let u6:=A.add (A.shr u1 4) u1;let u0:=A.bits .and .u64 u6 1085102592571150095;let u5:=A.add u0 (A.shr u0 8);let u2:=A.add u5 (A.shr u5 16);let u4:=A.add u2 (A.shr u2 32);rB [A.inR .i64 u4,A.inR .u64 u4,Zac (A.le 0 32) (Nat.blt (A.nat 32) 64),A.inR .u64 u2,Zac (A.le 0 16) (Nat.blt (A.nat 16) 64),A.inR .u64 u5,Zac (A.le 0 8) (Nat.blt (A.nat 8) 64),A.inR .u64 u6,Zac (A.le 0 4) (Nat.blt (A.nat 4) 64),A.inR .u64 u1,Zac (A.le 0 2) (Nat.blt (A.nat 2) 64),A.inR .u64 u3,Zac (A.le 0 1) (Nat.blt (A.nat 1) 64)] (F (AV.int .i64 (A.bits .and .i64 u4 127)) none)
theorem ZHK{A:Ar}{K:KT}{F:FT}{M:MT}{n:Int} :Zah A tab N1 65 K F M (.run 5 (.fy (.run 76 (.fn)))) (ZPq n) []=ZCk A K F n:=by kernel_rfl
def ZFx(xs:zI)(lo hi:Int):AFrame:=vF 52 14 [vL 0 xs,vI 1 lo,vI 2 hi] [.code a52.code] [.tmp 6]
def ZP2(xs:zI)(lo hi:Int):List AFrame:=[(ZFx xs lo hi)]
theorem ZEq(xs:zI)(lo hi:Int):Zak tab 52 [AV.list (.ints .i64 xs),AV.int .i64 lo,AV.int .i64 hi]=some (ZFx xs lo hi):=rfl
def v12Q:List AItem:=[.inReg [oN 7 (.ncall true 0 90 [.t 5,.t 6]),oN 8 (.bin Go.BinOp.geq (.t 7) (cI 0)),mV 4 8], .code ACode.ret]
def Zj8(xs:zI)(lo hi n0 n1:Int):List AFrame:=[vF 90 19 [vL 0 xs,(1,AV.fn 73 [AV.ptr 52005 0 0 0,AV.ptr 52006 0 0 0]),vI 7 n0,vI 8 n1] (vC Zy8 ZEw) [.tmp 4],vF 72 9 [vL 0 xs,(1,AV.fn 73 [AV.ptr 52005 0 0 0,AV.ptr 52006 0 0 0]),vB 4 false,vL 5 xs,(6,AV.fn 73 [AV.ptr 52005 0 0 0,AV.ptr 52006 0 0 0])] v12Q [.tmp 4],vF 52 14 [vL 0 xs,vI 1 lo,vI 2 hi,vP 4 52005,vP 5 52006,vI 6 0,vL 8 xs,(9,AV.fn 73 [AV.ptr 52005 0 0 0,AV.ptr 52006 0 0 0])] [.inReg [oN 10 (.ncall true 0 72 [.t 8,.t 9]),mV 7 10], .code (.seq (.reg none [mV 11 7,oN 12 (.not (.t 11)),oN 13 (.ncall true 0 51 [.t 12,cI 2]),mV 6 13]) ACode.ret)] [.tmp 6]]
def Zgu(xs:zI)(lo hi n0 n1:Int):Zaa:=[vG 52005 (.int .i64 lo),vG 52006 (.int .i64 hi)]
abbrev ZnK(xs:zI)(lo hi n0 n1:Int):List AFrame×Zaa:=(Zj8 xs lo hi n0 n1,Zgu xs lo hi n0 n1)
def ZJF(A:Ar)(K:KT)(F:FT)(xs:zI)(lo hi:Int):Prop:=K (ZnK xs lo hi (A.int (A.len xs)) 0)
theorem ZNE{A:Ar}{K:KT}{F:FT}{M:MT}{xs:zI}{lo hi:Int} :Zah A tab N1 52 K F M (.run 34 (.hd)) (ZP2 xs lo hi) []=ZJF A K F xs lo hi:=by kernel_rfl
def Zea(A:Ar)(K:KT)(F:FT)(xs:zI)(lo hi n0 n1:Int):Prop:=bB (A.lt n1 n0) (rB [Zac (Zac (A.le 0 n1) (Nat.blt (A.nat n1) (A.len xs))) true] (bB (A.not (Zaf (A.nth xs (A.nat n1)) lo hi)) (F (AV.int .i64 (Zae (A.not (A.le 0 n1)) 2)) none) (rB [A.inR .i64 (A.add n1 1)] (K (ZnK xs lo hi n0 (A.add n1 1)))))) (F (AV.int .i64 (Zae (A.not (A.le 0 (-1))) 2)) none)
theorem Zli{A:Ar}{K:KT}{F:FT}{M:MT}{xs:zI}{lo hi n0 n1:Int} :Zah A tab N1 52 K F M (.run 6 (.tf (.run 32 (.tf (.run 22 (.fn)) (.run 8 (.hd)))) (.run 22 (.fn)))) (Zj8 xs lo hi n0 n1) (Zgu xs lo hi n0 n1)=Zea A K F xs lo hi n0 n1:=by kernel_rfl
def ZGs(xs:zI):AFrame:=vF 10 16 [vL 0 xs] [.code a10.code] [.tmp 2]
def ZPD(xs:zI):List AFrame:=[(ZGs xs)]
theorem ZCQ(xs:zI):Zak tab 10 [AV.list (.ints .i64 xs)]=some (ZGs xs):=rfl
def Zj6(xs:zI)(n0:Int):List AFrame:=[vF 10 16 [vL 0 xs,vI 3 n0] (vC ZJe ZM0) [.tmp 2]]
def Zhs(xs:zI)(n0:Int):Zaa:=[]
abbrev ZmT(xs:zI)(n0:Int):List AFrame×Zaa:=(Zj6 xs n0,Zhs xs n0)
def ZKO(A:Ar)(K:KT)(F:FT)(xs:zI):Prop:=K (ZmT xs 0)
theorem ZOh{A:Ar}{K:KT}{F:FT}{M:MT}{xs:zI} :Zah A tab N1 10 K F M (.run 12 (.hd)) (ZPD xs) []=ZKO A K F xs:=by kernel_rfl
def ZeG(A:Ar)(K:KT)(F:FT)(xs:zI)(n0:Int):Prop:=bB (A.lt n0 (A.int (A.len xs))) (rB [Zac (Zac (A.le 0 n0) (Nat.blt (A.nat n0) (A.len xs))) true] (bB (A.not (Zaf (A.nth xs (A.nat n0)) 0 15)) (F (AV.int .i64 2) none) (rB [A.inR .i64 (A.add n0 1)] (K (ZmT xs (A.add n0 1)))))) (F (AV.int .i64 0) none)
theorem ZlM{A:Ar}{K:KT}{F:FT}{M:MT}{xs:zI}{n0:Int} :Zah A tab N1 10 K F M (.run 9 (.tf (.run 24 (.tf (.run 5 (.fn)) (.run 9 (.hd)))) (.run 6 (.fn)))) (Zj6 xs n0) (Zhs xs n0)=ZeG A K F xs n0:=by kernel_rfl
end Go.Proofs.YtjhldefnjghcdaaGreat
namespace Go.Proofs.YtjhldefnjghcdaaGreat
theorem Rel.sameA{w:World}{ok:Nat→Prop}{h:Zaa}{L:Lay}{r r':Row}{v:Value}(he:r.elems=r'.elems)(hr:Rel w ok h L (.agg r) v):Rel w ok h L (.agg r') v:=by
 cases hr with
 |agg _ xs hx vs hl h1 hrr=>exact .agg r' xs (hx.trans he) vs hl h1 hrr
theorem Zjf{f:FuncId}{xs ys:List AV}{r r':Row}{x:AV}{fr:Option Fresh}(h:ZaK Tryz.prog f (xs++ .agg r::ys) x fr)(he:r'.elems=r.elems):ZaK Tryz.prog f (xs++ .agg r'::ys) x fr:=by
 intro w okA L vs hargs hok hG
 refine h w okA L vs ⟨by have:=hargs.1;simpa using this,fun j u v hu hv=>?_⟩ hok hG
 rcases Nat.lt_trichotomy j xs.length with hj |hj |hj
 ·rw[List.getElem?_append_left hj]at hu
  exact hargs.2 j u v (by rw[List.getElem?_append_left hj];exact hu) hv
 ·subst hj
  rw[List.getElem?_append_right (Nat.le_refl _)]at hu
  simp only[Nat.sub_self,List.getElem?_cons_zero,Option.some.injEq]at hu
  subst hu
  exact Rel.sameA he (hargs.2 _ _ v (by rw[List.getElem?_append_right (Nat.le_refl _)];simp) hv)
 ·rw[List.getElem?_append_right (by omega),show j-xs.length=(j-xs.length-1)+1 by omega,List.getElem?_cons_succ]at hu
  exact hargs.2 j u v (by rw[List.getElem?_append_right (by omega),show j-xs.length=(j-xs.length-1)+1 by omega,List.getElem?_cons_succ];exact hu) hv
def ZEy(x:Nat):Nat:=x%2+x/2%2+x/4%2+x/8%2
def ZOC(r k:Int):Int:=((ZEy (r.toNat &&& k.toNat)%2:Nat):Int)
theorem Ztb(r k:Nat)(hr:r≤15)(hk:k≤15):std.bits .and .i64 (r:Int) (k:Int)=((r &&& k:Nat):Int):=by
 have h1:∀m:Nat,m≤15→(BitVec.ofInt 64 (m:Int)).toNat=m:=fun m hm=>by
  rw[BitVec.ofInt_natCast,BitVec.toNat_ofNat];exact Nat.mod_eq_of_lt (by omega)
 show IntKind.i64.wrap ((BitVec.ofInt 64 (r:Int) &&& BitVec.ofInt 64 (k:Int)).toNat:Int)=_
 rw[BitVec.toNat_and,h1 r hr,h1 k hk]
 have:= @Nat.and_le_left r k
 rw[IntKind.wrap_i64]
 omega
theorem Zqp:∀ {l:List Bool},l.all (fun b=>b)=true→AllT l
 |[],_=>trivial
 |b::l,h=>by
  simp only[List.all_cons,Bool.and_eq_true]at h
  exact⟨h.1,Zqp h.2⟩
theorem Zuw(x:Int)(h:0≤x∧x≤15):ZaK Tryz.prog 65 [.int .u64 x] (.int .i64 ((ZEy x.toNat:Nat):Int)) none:=by
 have:x=0∨x=1∨x=2∨x=3∨x=4∨x=5∨x=6∨x=7∨x=8∨x=9∨x=10∨x=11∨x=12∨x=13∨x=14∨x=15:=by omega
 rcases this with rfl |rfl |rfl |rfl |rfl |rfl |rfl |rfl |rfl |rfl |rfl |rfl |rfl |rfl |rfl |rfl<;>
  exact start (ZvH _) fun C hC=>tgo hC Zoo ZHK (by
   simp only[ZCk,ZCV]
   exact⟨Zqp (by kernel_rfl),by kernel_rfl,trivial⟩)
def ZaF(xs:zI)(lo hi:Int):Int:=if xs.all (fun x=>Zaf x lo hi)=true then 0 else 2
theorem ZcM{xs:zI}{k:Nat}(lo hi:Int)(h:k<xs.length):ZaF (xs.drop k) lo hi=if Zaf (xs.getD k 0) lo hi=true then ZaF (xs.drop (k+1)) lo hi else 2:=by
 rw[ZdE h]
 unfold ZaF
 cases hw:Zaf (xs.getD k 0) lo hi<;>simp[-List.getD_eq_getElem?_getD,List.all_cons,hw]
section
variable {C:Ctx}(hC:C.P=Tryz.prog)
include hC
theorem ZsO(xs:zI)(lo hi:Int)(hl:xs.length≤1000000):∀m k:Nat,k+m=xs.length→Ev C (Zj8 xs lo hi xs.length k) (Zgu xs lo hi xs.length k) (ZaD 52 (.int .i64 (ZaF (xs.drop k) lo hi)) none)
 |0,k,hk=>tgo hC Zoo Zli (by
  rw[List.drop_of_length_le (by omega)]
  simp[Zea,show ¬(k:Int)<xs.length by omega,ZaF,Zae])
 |m+1,k,hk=>by
  have ih:=ZsO xs lo hi hl m (k+1) (by omega)
  have hlt:(k:Int)<xs.length:=by omega
  have hlt2:k<xs.length:=by omega
  rw[ZcM lo hi hlt2]
  refine tgo hC Zoo Zli ?_
  cases hw:Zaf (xs.getD k 0) lo hi with
  |true=>
   simp[-List.getD_eq_getElem?_getD,Zea,hlt,hlt2,hw]
   exact⟨by omega,by simpa using ih⟩
  |false=>simp[-List.getD_eq_getElem?_getD,Zea,hlt,hlt2,hw,Zae]
theorem Zo6(xs:zI)(hl:xs.length≤1000000):∀m k:Nat,k+m=xs.length→Ev C (Zj6 xs k) (Zhs xs k) (ZaD 10 (.int .i64 (ZaF (xs.drop k) 0 15)) none)
 |0,k,hk=>tgo hC Zoo ZlM (by
  rw[List.drop_of_length_le (by omega)]
  simp[ZeG,show ¬(k:Int)<xs.length by omega,ZaF])
 |m+1,k,hk=>by
  have ih:=Zo6 xs hl m (k+1) (by omega)
  have hlt:(k:Int)<xs.length:=by omega
  have hlt2:k<xs.length:=by omega
  rw[ZcM _ _ hlt2]
  refine tgo hC Zoo ZlM ?_
  cases hw:Zaf (xs.getD k 0) 0 15 with
  |true=>
   simp[-List.getD_eq_getElem?_getD,ZeG,hlt,hlt2,hw]
   exact⟨by omega,by simpa using ih⟩
  |false=>simp[-List.getD_eq_getElem?_getD,ZeG,hlt,hlt2,hw]
end
theorem ZyA(xs:zI)(lo hi:Int)(hl:xs.length≤1000000):ZaK Tryz.prog 52 [.list (.ints .i64 xs), .int .i64 lo, .int .i64 hi] (.int .i64 (ZaF xs lo hi)) none:=
 start (ZEq xs lo hi) fun C hC=>tgo hC Zoo ZNE (by
  have:=ZsO hC xs lo hi hl xs.length 0 (by omega)
  simp[ZJF]
  simpa using this)
theorem ZuP(xs:zI)(hl:xs.length≤1000000):ZaK Tryz.prog 10 [.list (.ints .i64 xs)] (.int .i64 (ZaF xs 0 15)) none:=
 start (ZCQ xs) fun C hC=>tgo hC Zoo ZOh (by
  have:=Zo6 hC xs hl xs.length 0 (by omega)
  simp[ZKO]
  simpa using this)
def stN(m:Int):Int:=2^m.toNat
def ZqI(m:Int):Bool:=decide (1≤m∧m≤3)
theorem ZmA{m:Int}(h:1≤m∧m≤3):stN m=2∨stN m=4∨stN m=8:=by
 have:m=1∨m=2∨m=3:=by omega
 rcases this with rfl |rfl |rfl<;>simp[stN]
def k113:Ctr:=⟨65,0,fun _ a=>match a with |[.int .u64 x]=>some (decide (0≤x∧x≤15), .int .i64 ((ZEy x.toNat:Nat):Int),none) |_=>none⟩
theorem ZB7:k113.OK Tryz.prog:=fun pa args r fr h=>by
 simp only[k113]at h
 split at h
 ·simp only[Option.some.injEq,Prod.mk.injEq,decide_eq_true_eq]at h
  obtain⟨h0,rfl,rfl⟩:=h
  exact Zuw _ h0
 ·cases h
def k70:Ctr:=⟨52,0,fun _ a=>match a with |[.list (.ints .i64 xs), .int .i64 lo, .int .i64 hi]=>some (decide (xs.length≤1000000), .int .i64 (ZaF xs lo hi),none) |_=>none⟩
theorem ZJk:k70.OK Tryz.prog:=fun pa args r fr h=>by
 simp only[k70]at h
 split at h
 ·simp only[Option.some.injEq,Prod.mk.injEq,decide_eq_true_eq]at h
  obtain⟨h0,rfl,rfl⟩:=h
  exact ZyA _ _ _ h0
 ·cases h
def k26:Ctr:=⟨10,0,fun _ a=>match a with |[.list (.ints .i64 xs)]=>some (decide (xs.length≤1000000), .int .i64 (ZaF xs 0 15),none) |_=>none⟩
theorem ZKN:k26.OK Tryz.prog:=fun pa args r fr h=>by
 simp only[k26]at h
 split at h
 ·simp only[Option.some.injEq,Prod.mk.injEq,decide_eq_true_eq]at h
  obtain⟨h0,rfl,rfl⟩:=h
  exact ZuP _ h0
 ·cases h
def N2:List Ctr:=[k113,k70,k26]++N1
theorem ZrJ:Zar Tryz.prog N2:=⟨ZB7,⟨ZJk,⟨ZKN,Zoo⟩⟩⟩
end Go.Proofs.YtjhldefnjghcdaaGreat
namespace Go.Proofs.YtjhldefnjghcdaaGreat
set_option maxRecDepth 100000
set_option linter.unusedVariables false
def ZHL(m g0 g1:Int):AFrame:=vF 46 15 [(0,AV.agg (.ints .i64 [m,g0,g1]))] [.code a46.code] [.tmp 2]
def ZQd(m g0 g1:Int):List AFrame:=[(ZHL m g0 g1)]
theorem ZDU(m g0 g1:Int):Zak tab 46 [AV.agg (.ints .i64 [m,g0,g1])]=some (ZHL m g0 g1):=rfl
def ZEr(A:Ar)(K:KT)(F:FT)(m g0 g1:Int):Prop:=let u4:=A.nth [m,g0,g1] 0;let u0:=A.add u4 1;let u1:=A.len [m,g0,g1];let u2:=A.sub3 [m,g0,g1] 1 2;let u3:=A.shl 1 u0;rB [Nat.blt 0 u1,Nat.blt 0 u1] (bB (A.not (Zaf u4 1 3)) (F (AV.int .i64 2) none) (rB [Zac (Zac (Zac (Nat.ble 3 u1) true) true) (decide (List.length u2≤1000000)),A.inR .i64 (A.sub u3 1),Zac (Zac (A.le 0 u0) (Nat.blt (A.nat u0) 64)) (A.inR .i64 u3),A.inR .i64 u0,Nat.blt 0 u1] (F (AV.int .i64 (ZaF u2 1 (A.sub u3 1))) none)))
theorem ZMz{A:Ar}{K:KT}{F:FT}{M:MT}{m g0 g1:Int} :Zah A tab N2 46 K F M (.run 13 (.tf (.run 5 (.fn)) (.run 5 (.fn)))) (ZQd m g0 g1) []=ZEr A K F m g0 g1:=by kernel_rfl
def ZFD(m g0 g1:Int):AFrame:=vF 26 29 [(0,AV.agg (.ints .i64 [m,g0,g1]))] [.code a26.code] [.tmp 2]
def ZP4(m g0 g1:Int):List AFrame:=[(ZFD m g0 g1)]
theorem ZDl(m g0 g1:Int):Zak tab 26 [AV.agg (.ints .i64 [m,g0,g1])]=some (ZFD m g0 g1):=rfl
def ZA3(A:Ar)(K:KT)(F:FT)(m g0 g1:Int):Prop:=let u0:=A.nth [m,g0,g1] 0;let u1:=A.len [m,g0,g1];let u3:=A.shl 2 u0;let u2:=A.sub u3 1;let u4:=A.nth [m,g0,g1] 1;let u5:=A.nat u0;rB [Nat.blt 0 u1] (qB [A.not (Zaf u0 1 3),Nat.blt 0 u1] (F (AV.int .i64 2) none) (qB [A.not (Zaf u4 1 u2),A.inR .i64 u2,Zac (Zac (A.le 0 u0) (Nat.blt u5 64)) (A.inR .i64 u3),Nat.blt 0 u1,Nat.blt 1 u1,!A.not (Zaf u0 1 3),Nat.blt 0 u1] (F (AV.int .i64 2) none) (rB [A.inR .i64 u2,Zac (Zac (A.le 0 u0) (Nat.blt u5 64)) (A.inR .i64 u3),Nat.blt 0 u1,Nat.blt 2 u1,!A.not (Zaf u4 1 u2),A.inR .i64 u2,Zac (Zac (A.le 0 u0) (Nat.blt u5 64)) (A.inR .i64 u3),Nat.blt 0 u1,Nat.blt 1 u1,!A.not (Zaf u0 1 3),Nat.blt 0 u1] (bB (A.not (Zaf (A.nth [m,g0,g1] 2) 1 u2)) (F (AV.int .i64 2) none) (F (AV.int .i64 0) none)))))
theorem ZOf{A:Ar}{K:KT}{F:FT}{M:MT}{m g0 g1:Int} :Zah A tab N2 26 K F M (.run 7 (.alt [true,true] (.run 1 (.ty (.run 5 (.fn)))) (.alt [false,true] (.run 1 (.ty (.run 5 (.fn)))) (.alt [false,false] (.run 1 (.tf (.run 5 (.fn)) (.run 6 (.fn)))) (.no))))) (ZP4 m g0 g1) []=ZA3 A K F m g0 g1:=by kernel_rfl
def ZGQ(m g0 g1 s b:Int):AFrame:=vF 48 35 [(0,AV.agg (.ints .i64 [m,g0,g1])),vI 1 s,vI 2 b] [.code a48.code] [.tmp 6,ARes.cell 7 true 2]
def ZQv(m g0 g1 s b:Int):List AFrame:=[(ZGQ m g0 g1 s b)]
theorem ZBb(m g0 g1 s b:Int):Zak tab 48 [AV.agg (.ints .i64 [m,g0,g1]),AV.int .i64 s,AV.int .i64 b]=some (ZGQ m g0 g1 s b):=rfl
def ZdL(n0:Int)(l1:zI)(n2:Int)(l3:zI):List AFrame:=[vF 48 35 [vP 7 48008,vI 8 n0,(18,AV.agg (.ints .i64 l1)),vI 19 n2] (vC ZIv ZMh) [.tmp 6,ARes.cell 7 true 2]]
def ZcR(n0:Int)(l1:zI)(n2:Int)(l3:zI):Zaa:=[(48008,{ base:=0,blks:=[Blk.row 22 2 (Row.gen [.agg (.ints .i64 l3)])] })]
abbrev Zll(n0:Int)(l1:zI)(n2:Int)(l3:zI):List AFrame×Zaa:=(ZdL n0 l1 n2 l3,ZcR n0 l1 n2 l3)
def ZKi(A:Ar)(K:KT)(F:FT)(m g0 g1 s b:Int):Prop:=let u0:=A.nth [m,g0,g1] 0;let u1:=A.len [m,g0,g1];rB [Nat.ble 3 u1,Zac (Zac (A.le 0 u0) (Nat.blt (A.nat u0) 64)) (A.inR .i64 (A.shl b u0)),Nat.blt 0 u1,Nat.blt 0 (A.len [0,0]),Nat.blt 0 u1] (K (Zll (A.bits .or .i64 (A.shl b u0) s) (A.sub3 [m,g0,g1] 1 2) 0 ([0,0])))
theorem ZN6{A:Ar}{K:KT}{F:FT}{M:MT}{m g0 g1 s b:Int} :Zah A tab N2 48 K F M (.run 27 (.hd)) (ZQv m g0 g1 s b) []=ZKi A K F m g0 g1 s b:=by kernel_rfl
def ZeX(A:Ar)(K:KT)(F:FT)(n0:Int)(l1:zI)(n2:Int)(l3:zI):Prop:=let u0:=A.nth l1 (A.nat n2);let u1:=A.bits .and .i64 n0 u0;let u2:=A.sub3 l3 0 2;bB (A.lt n2 2) (rB [A.inR .i64 (A.add n2 1),Nat.blt (0+A.nat n2) 2,Zac (A.le 0 n2) (A.lt n2 (A.int 2)),A.not (A.eq 2 0),decide (0≤A.bits .and .i64 n0 u0∧A.bits .and .i64 n0 u0≤15),A.inR .u64 u1,Zac (Zac (A.le 0 n2) (A.lt n2 (A.int 2))) (Nat.blt (A.nat n2) (A.len l1))] (K (Zll n0 l1 (A.add n2 1) (A.set l3 (0+A.nat n2) (A.rem (↑(ZEy (Int.toNat u1))) 2))))) (rB [Nat.beq (A.len u2) 2,Nat.ble 2 (A.len l3),Zac (A.le 0 1) (Nat.blt (A.nat 1) 64)] (rB [Zac (Zac (Nat.ble 2 (A.len u2)) true) true] (F (AV.tup [AV.int .i64 (A.shr n0 1),AV.agg (.ints .i64 (A.sub3 u2 0 2))]) none)))
theorem ZgT{A:Ar}{K:KT}{F:FT}{M:MT}{n0:Int}{l1:zI}{n2:Int}{l3:zI} :Zah A tab N2 48 K F M (.run 6 (.tf (.run 28 (.hd)) (.run 4 (.fn)))) (ZdL n0 l1 n2 l3) (ZcR n0 l1 n2 l3)=ZeX A K F n0 l1 n2 l3:=by kernel_rfl
end Go.Proofs.YtjhldefnjghcdaaGreat
namespace Go.Proofs.YtjhldefnjghcdaaGreat
def ZaI(m p q:Int):Int:=if ¬(1≤m∧m≤3)then 2 else if(1≤p∧p≤2*stN m-1)∧(1≤q∧q≤2*stN m-1)then 0 else 2
theorem Zan{m p q:Int}(h:ZaI m p q=0):(m=1∨m=2∨m=3)∧1≤p∧p≤2*stN m-1∧1≤q∧q≤2*stN m-1∧p≤15∧q≤15:=by
 unfold ZaI at h
 split at h
 ·cases h
 ·rename_i h1
  split at h
  ·rename_i h2
   have h3:=ZmA (show 1≤m∧m≤3 by omega)
   exact⟨by omega,by omega,by omega,by omega,by omega,by omega,by omega⟩
  ·cases h
theorem ZoZ(m p q:Int):ZaK Tryz.prog 26 [.agg (.ints .i64 [m,p,q])] (.int .i64 (ZaI m p q)) none:=
 start (ZDl m p q) fun C hC=>tgo hC ZrJ ZOf (by
  by_cases h1:1≤m∧m≤3
  ·have h3:=ZmA h1
   have hm:0≤m∧m≤64:=by omega
   have hw:Zaf m 1 3=true:=decide_eq_true h1
   have e:(2:Int)*2^m.toNat=2*stN m:=rfl
   simp only[ZA3,Zba,List.getD_cons_zero,List.getD_cons_succ,ZyR,e,Zk8]
   cases hp:Zaf p 1 (2*stN m-1)with
   |false=>
    have:¬(1≤p∧p≤2*stN m-1):=of_decide_eq_false hp
    simp[Zw3,hw,hp,ZaI,h1,this];omega
   |true=>
    have hp2:1≤p∧p≤2*stN m-1:=of_decide_eq_true hp
    cases hq:Zaf q 1 (2*stN m-1)with
    |false=>
     have:¬(1≤q∧q≤2*stN m-1):=of_decide_eq_false hq
     simp[Zw3,hw,hp,hq,ZaI,h1,hp2,this];omega
    |true=>
     have hq2:1≤q∧q≤2*stN m-1:=of_decide_eq_true hq
     simp[Zw3,hw,hp,hq,ZaI,h1,hp2,hq2];omega
  ·have hw:Zaf m 1 3=false:=decide_eq_false h1
   simp[ZA3,Zw3,hw,ZaI,h1])
theorem ZpH(m p q:Int):ZaK Tryz.prog 46 [.agg (.ints .i64 [m,p,q])] (.int .i64 (ZaI m p q)) none:=
 start (ZDU m p q) fun C hC=>tgo hC ZrJ ZMz (by
  by_cases h1:1≤m∧m≤3
  ·have h3:=ZmA h1
   have hw:Zaf m 1 3=true:=decide_eq_true h1
   have e:(1:Int)*2^(m+1).toNat=2*stN m:=by
    rw[show (m+1).toNat=m.toNat+1 by omega,Int.pow_succ,Int.one_mul,Int.mul_comm];rfl
   simp only[ZEr,Zba,List.getD_cons_zero,Zho,ZyR,e,Zk8,ZAq]
   have hr:ZaF [p,q] 1 (2*stN m-1)=ZaI m p q:=by
    have hc:ZaI m p q=if(1≤p∧p≤2*stN m-1)∧(1≤q∧q≤2*stN m-1)then 0 else 2:=by
     unfold ZaI;rw[if_neg (fun h=>h h1)]
    rw[hc]
    unfold ZaF
    by_cases h2:(1≤p∧p≤2*stN m-1)∧(1≤q∧q≤2*stN m-1)
    ·rw[if_pos h2,if_pos (by simp[Zaf,h2])]
    ·rw[if_neg h2,if_neg (fun h=>h2 (by simpa[Zaf]using h))]
   simp[hw,hr];omega
  ·have hw:Zaf m 1 3=false:=decide_eq_false h1
   simp[ZEr,hw,ZaI,h1])
def ZxF(m s b:Int):Int:=b*stN m+s
def nxS(m s b:Int):Int:=ZxF m s b/2
def oS(m g s b:Int):Int:=ZOC (ZxF m s b) g
theorem ZnT(r k:Nat)(hr:r≤15)(hk:k≤15):std.bits .or .i64 (r:Int) (k:Int)=((r ||| k:Nat):Int):=by
 have h1:∀m:Nat,m≤15→(BitVec.ofInt 64 (m:Int)).toNat=m:=fun m hm=>by
  rw[BitVec.ofInt_natCast,BitVec.toNat_ofNat];exact Nat.mod_eq_of_lt (by omega)
 show IntKind.i64.wrap ((BitVec.ofInt 64 (r:Int) ||| BitVec.ofInt 64 (k:Int)).toNat:Int)=_
 rw[BitVec.toNat_or,h1 r hr,h1 k hk]
 have:r ||| k<2^4:=Nat.or_lt_two_pow (by omega) (by omega)
 rw[IntKind.wrap_i64]
 omega
def Zi9(m p q s b:Int):Bool:=decide (ZaI m p q=0∧0≤s∧s<stN m∧(b=0∨b=1))
theorem Zxf{m s b:Int}(hm:m=1∨m=2∨m=3)(hs:0≤s∧s<stN m)(hb:b=0∨b=1):0≤ZxF m s b∧ZxF m s b≤15∧0≤nxS m s b∧nxS m s b<stN m∧ZxF m s b<2*stN m:=by
 unfold nxS ZxF
 rcases hm with rfl |rfl |rfl<;>rcases hb with rfl |rfl<;>simp[stN]at hs⊢ <;>omega
theorem Zw0:∀m,m<4→∀B,B<2→∀S,S<8→S<2^m→B*2^m ||| S=B*2^m+S:=by decide
theorem ZI1{m s b:Int}(hm:m=1∨m=2∨m=3)(hs:0≤s∧s<stN m)(hb:b=0∨b=1):std.bits .or .i64 (b*2^m.toNat) s=ZxF m s b:=by
 obtain⟨S,rfl⟩:=Int.eq_ofNat_of_zero_le hs.1
 have hS:=hs.2
 unfold ZxF
 rcases hm with rfl |rfl |rfl<;>rcases hb with rfl |rfl<;>simp[stN]at hS⊢
 all_goals
  first
  |(have:=ZnT 0 S (by omega) (by omega);simpa using this)
  |(have:=ZnT 2 S (by omega) (by omega);have h2:=Zw0 1 (by omega) 1 (by omega) S (by omega) (by omega);simp at h2;rw[h2]at this;simpa using this)
  |(have:=ZnT 4 S (by omega) (by omega);have h2:=Zw0 2 (by omega) 1 (by omega) S (by omega) (by omega);simp at h2;rw[h2]at this;simpa using this)
  |(have:=ZnT 8 S (by omega) (by omega);have h2:=Zw0 3 (by omega) 1 (by omega) S (by omega) (by omega);simp at h2;rw[h2]at this;simpa using this)
theorem ZvL{m:Int}(hm:m=1∨m=2∨m=3):(2:Int)^m.toNat≤8∧2≤(2:Int)^m.toNat:=by
 rcases hm with rfl |rfl |rfl<;>decide
theorem Zpf(m p q s b:Int)(hv:ZaI m p q=0)(hs:0≤s∧s<stN m)(hb:b=0∨b=1):ZaK Tryz.prog 48 [.agg (.ints .i64 [m,p,q]), .int .i64 s, .int .i64 b] (.tup [.int .i64 (nxS m s b), .agg (.ints .i64 [oS m p s b,oS m q s b])]) none:=by
 obtain⟨hm,p1,p2,q1,q2,p3,q3⟩:=Zan hv
 obtain⟨r0,r1,r2,r3,r4⟩:=Zxf hm hs hb
 have hw:=ZvL hm
 have hb2:0≤b*2^m.toNat∧b*2^m.toNat≤8:=by rcases hb with rfl |rfl<;>omega
 have ho:=ZI1 hm hs hb
 obtain⟨R,hR⟩:=Int.eq_ofNat_of_zero_le r0
 obtain⟨P,rfl⟩:=Int.eq_ofNat_of_zero_le (show 0≤p by omega)
 obtain⟨Q,rfl⟩:=Int.eq_ofNat_of_zero_le (show 0≤q by omega)
 have b0:∀k:Nat,k≤15→0≤std.bits .and .i64 (R:Int) (k:Int)∧std.bits .and .i64 (R:Int) (k:Int)≤15:=fun k hk=>by
  rw[Ztb R k (by omega) hk];have:= @Nat.and_le_left R k;omega
 have u0:∀k:Nat,k≤15→std.inR .u64 (std.bits .and .i64 (R:Int) (k:Int))=true:=fun k hk=>by
  have:=b0 k hk
  exact decide_eq_true ⟨by show(0:Int)≤_;omega,by show _≤(18446744073709551615:Int);omega⟩
 have hk:∀k:Nat,k≤15→Int.tmod ((ZEy (Int.toNat (std.bits .and .i64 (R:Int) (k:Int))):Nat):Int) 2=oS m k s b:=fun k hk=>by
  rw[Ztb R k (by omega) hk,oS,hR];rfl
 refine start (ZBb m P Q s b) fun C hC=>tgo hC ZrJ ZN6 ?_
 simp only[ZKi,Zba,List.getD_cons_zero,ZyR,ho,hR,ZAq]
 have two:Ev C (ZdL R [(P:Int),(Q:Int)] (2:Nat) [oS m P s b,oS m Q s b]) (ZcR R [(P:Int),(Q:Int)] (2:Nat) [oS m P s b,oS m Q s b]) (ZaD 48 (.tup [.int .i64 (nxS m s b), .agg (.ints .i64 [oS m P s b,oS m Q s b])]) none):=tgo hC ZrJ ZgT (by
  have:nxS m s b=(R:Int).fdiv 2:=by unfold nxS;rw[hR,Int.fdiv_eq_ediv];simp
  simp[ZeX,this])
 have one:Ev C (ZdL R [(P:Int),(Q:Int)] (1:Nat) [oS m P s b,0]) (ZcR R [(P:Int),(Q:Int)] (1:Nat) [oS m P s b,0]) (ZaD 48 (.tup [.int .i64 (nxS m s b), .agg (.ints .i64 [oS m P s b,oS m Q s b])]) none):=tgo hC ZrJ ZgT (by
  simp[ZeX,b0 Q (by omega),u0 Q (by omega),hk Q (by omega)]
  simpa using two)
 have zero:Ev C (ZdL R [(P:Int),(Q:Int)] (0:Nat) [0,0]) (ZcR R [(P:Int),(Q:Int)] (0:Nat) [0,0]) (ZaD 48 (.tup [.int .i64 (nxS m s b), .agg (.ints .i64 [oS m P s b,oS m Q s b])]) none):=tgo hC ZrJ ZgT (by
  simp[ZeX,b0 P (by omega),u0 P (by omega),hk P (by omega)]
  simpa using one)
 simp
 exact⟨by omega,by simpa using zero⟩
def sfE(m:Int)(so:zI):Int:=if so.length%2≠0∨(so.length:Int)<2*m then 10 else if 2*(300+m)<(so.length:Int)then 8 else ZaF so (-7) 7
def k28i:Ctr:=⟨26,0,fun _ a=>match a with |[.agg (.ints .i64 [m,p,q])]=>some (true, .int .i64 (ZaI m p q),none) |_=>none⟩
theorem ZEj:k28i.OK Tryz.prog:=fun pa args r fr h=>by
 simp only[k28i]at h
 split at h
 ·cases h
  exact ZoZ _ _ _
 ·cases h
def k28g:Ctr:=⟨26,0,fun _ a=>match a with |[.agg (.gen [.int .i64 m, .int .i64 p, .int .i64 q])]=>some (true, .int .i64 (ZaI m p q),none) |_=>none⟩
theorem ZAU:k28g.OK Tryz.prog:=fun pa args r fr h=>by
 simp only[k28g]at h
 split at h
 ·cases h
  exact Zjf (xs:=[]) (r:=.ints .i64 [_,_,_]) (ZoZ _ _ _) rfl
 ·cases h
def k63i:Ctr:=⟨46,0,fun _ a=>match a with |[.agg (.ints .i64 [m,p,q])]=>some (true, .int .i64 (ZaI m p q),none) |_=>none⟩
theorem ZDj:k63i.OK Tryz.prog:=fun pa args r fr h=>by
 simp only[k63i]at h
 split at h
 ·cases h
  exact ZpH _ _ _
 ·cases h
def k63g:Ctr:=⟨46,0,fun _ a=>match a with |[.agg (.gen [.int .i64 m, .int .i64 p, .int .i64 q])]=>some (true, .int .i64 (ZaI m p q),none) |_=>none⟩
theorem ZBd:k63g.OK Tryz.prog:=fun pa args r fr h=>by
 simp only[k63g]at h
 split at h
 ·cases h
  exact Zjf (xs:=[]) (r:=.ints .i64 [_,_,_]) (ZpH _ _ _) rfl
 ·cases h
def k82i:Ctr:=⟨48,0,fun _ a=>match a with |[.agg (.ints .i64 [m,p,q]), .int .i64 s, .int .i64 b]=>some (decide (Zi9 m p q s b=true), .tup [.int .i64 (nxS m s b), .agg (.ints .i64 [oS m p s b,oS m q s b])],none) |_=>none⟩
theorem ZD7:k82i.OK Tryz.prog:=fun pa args r fr h=>by
 simp only[k82i]at h
 split at h
 ·simp only[Option.some.injEq,Prod.mk.injEq,decide_eq_true_eq]at h
  obtain⟨h0,rfl,rfl⟩:=h
  exact Zpf _ _ _ _ _ (of_decide_eq_true h0).1 ⟨(of_decide_eq_true h0).2.1,(of_decide_eq_true h0).2.2.1⟩ (of_decide_eq_true h0).2.2.2
 ·cases h
def k82g:Ctr:=⟨48,0,fun _ a=>match a with |[.agg (.gen [.int .i64 m, .int .i64 p, .int .i64 q]), .int .i64 s, .int .i64 b]=>some (decide (Zi9 m p q s b=true), .tup [.int .i64 (nxS m s b), .agg (.ints .i64 [oS m p s b,oS m q s b])],none) |_=>none⟩
theorem ZD2:k82g.OK Tryz.prog:=fun pa args r fr h=>by
 simp only[k82g]at h
 split at h
 ·simp only[Option.some.injEq,Prod.mk.injEq,decide_eq_true_eq]at h
  obtain⟨h0,rfl,rfl⟩:=h
  exact Zjf (xs:=[]) (r:=.ints .i64 [_,_,_]) (Zpf _ _ _ _ _ (of_decide_eq_true h0).1 ⟨(of_decide_eq_true h0).2.1,(of_decide_eq_true h0).2.2.1⟩ (of_decide_eq_true h0).2.2.2) rfl
 ·cases h
def N3:List Ctr:=[k28i,k28g,k63i,k63g,k82i,k82g]++N2
theorem ZN1:Zar Tryz.prog N3:=⟨ZEj,⟨ZAU,⟨ZDj,⟨ZBd,⟨ZD7,⟨ZD2,ZrJ⟩⟩⟩⟩⟩⟩
end Go.Proofs.YtjhldefnjghcdaaGreat
namespace Go.Proofs.YtjhldefnjghcdaaGreat
def ZaC(so:zI):Int:=((so.length/2:Nat):Int)
theorem ZuC(m p q:Int)(so:zI)(h:so.length≤1000000):ZaK Tryz.prog 91 [.agg (.gen [.int .i64 m, .int .i64 p, .int .i64 q, .list (.ints .i64 so)])] (.int .i64 (ZaC so)) none:=
 start (ZCC m p q so) fun C hC=>tgo hC ZbE ZMN (by
  have ht:((so.length:Nat):Int).tdiv 2=ZaC so:=rfl
  have hb:0≤ZaC so∧ZaC so≤1000000:=by unfold ZaC;omega
  simp only[ZJf,ZvZ,Zbw,Ze0,ht]
  simp;omega)
theorem Zq8(m p q:Int)(so:zI)(h:1≤m∧m≤3):ZaK Tryz.prog 93 [.agg (.gen [.int .i64 m, .int .i64 p, .int .i64 q, .list (.ints .i64 so)])] (.int .i64 (stN m)) none:=
 start (ZDg m p q so) fun C hC=>tgo hC ZbE ZNc (by
  have h2:=ZmA h
  unfold stN at h2⊢
  simp[ZGX];omega)
def gaI(so:zI)(t:Nat)(a b:Int):Int:=so.getD (2*t) 0*(1-2*a)+so.getD (2*t+1) 0*(1-2*b)
theorem Zd1{so:zI}(h:ZaF so (-7) 7=0)(k:Nat): -7≤so.getD k 0∧so.getD k 0≤7:=by
 unfold ZaF at h
 split at h
 ·rename_i hall
  by_cases hk:k<so.length
  ·have:=List.all_eq_true.1 hall _ (ZbC (d:=0) hk)
   simpa[Zaf]using of_decide_eq_true this
  ·rw[List.getD_eq_getElem?_getD,List.getElem?_eq_none (by omega)];simp
 ·cases h
theorem ZNX{so:zI}(h:ZaF so (-7) 7=0)(t:Nat){a b:Int}(ha:a=0∨a=1)(hb:b=0∨b=1): -14≤gaI so t a b∧gaI so t a b≤14:=by
 have h1:=Zd1 h (2*t)
 have h2:=Zd1 h (2*t+1)
 unfold gaI
 rcases ha with rfl |rfl<;>rcases hb with rfl |rfl<;>omega
theorem Zys(n:Int)(h:n=2∨n=4∨n=8):ZaK Tryz.prog 49 [.list (.ints .i64 [-100000]), .int .i64 n] (.row 0 0) (some ⟨3,1, .ints .i64 (List.replicate n.toNat (-100000))⟩):=by
 rcases h with rfl |rfl |rfl
 ·exact Zcy (n:=100000) (l:=[]) follows Zb5 trivial (by kernel_rfl)
 ·exact Zcy (n:=100000) (l:=[]) follows Zb5 trivial (by kernel_rfl)
 ·exact Zcy (n:=100000) (l:=[]) follows Zb5 trivial (by kernel_rfl)
theorem ZuI(n:Int)(h:n=2∨n=4∨n=8):ZaK Tryz.prog 49 [.list (.ints .i64 [100000]), .int .i64 n] (.row 0 0) (some ⟨3,1, .ints .i64 (List.replicate n.toNat 100000)⟩):=by
 rcases h with rfl |rfl |rfl
 ·exact Zcy (n:=100000) (l:=[]) follows Zb5 trivial (by kernel_rfl)
 ·exact Zcy (n:=100000) (l:=[]) follows Zb5 trivial (by kernel_rfl)
 ·exact Zcy (n:=100000) (l:=[]) follows Zb5 trivial (by kernel_rfl)
theorem Zxp(n:Int)(h:n=2∨n=4∨n=8):ZaK Tryz.prog 92 [.list (.flts .f32 [3351465984]), .int .i64 n] (.row 0 0) (some ⟨131,1, .flts .f32 (List.replicate n.toNat 3351465984)⟩):=by
 rcases h with rfl |rfl |rfl
 ·exact Zcy (n:=100000) (l:=[]) follows Zb5 trivial (by kernel_rfl)
 ·exact Zcy (n:=100000) (l:=[]) follows Zb5 trivial (by kernel_rfl)
 ·exact Zcy (n:=100000) (l:=[]) follows Zb5 trivial (by kernel_rfl)
def ZCD(n:Int):Bool:=decide (n=2∨n=4∨n=8)
def k84:Ctr:=⟨91,0,fun _ a=>match a with |[.agg (.gen [.int .i64 _, .int .i64 _, .int .i64 _, .list (.ints .i64 so)])]=>some (decide (so.length≤1000000), .int .i64 (ZaC so),none) |_=>none⟩
theorem ZK1:k84.OK Tryz.prog:=fun pa args r fr h=>by
 simp only[k84]at h
 split at h
 ·simp only[Option.some.injEq,Prod.mk.injEq,decide_eq_true_eq]at h
  obtain⟨h0,rfl,rfl⟩:=h
  exact ZuC _ _ _ _ h0
 ·cases h
def k86:Ctr:=⟨93,0,fun _ a=>match a with |[.agg (.gen [.int .i64 m, .int .i64 _, .int .i64 _, .list (.ints .i64 _)])]=>some (decide (ZqI m=true), .int .i64 (stN m),none) |_=>none⟩
theorem ZF7:k86.OK Tryz.prog:=fun pa args r fr h=>by
 simp only[k86]at h
 split at h
 ·simp only[Option.some.injEq,Prod.mk.injEq,decide_eq_true_eq]at h
  obtain⟨h0,rfl,rfl⟩:=h
  exact Zq8 _ _ _ _ (of_decide_eq_true h0)
 ·cases h
def k83:Ctr:=⟨49,0,fun _ a=>match a with |[.list (.ints .i64 [-100000]), .int .i64 n]=>some (decide (ZCD n=true), .row 0 0,some ⟨3,1, .ints .i64 (List.replicate n.toNat (-100000))⟩) |_=>none⟩
theorem ZGr:k83.OK Tryz.prog:=fun pa args r fr h=>by
 simp only[k83]at h
 split at h
 ·simp only[Option.some.injEq,Prod.mk.injEq,decide_eq_true_eq]at h
  obtain⟨h0,rfl,rfl⟩:=h
  exact Zys _ (of_decide_eq_true h0)
 ·cases h
def k83f:Ctr:=⟨49,0,fun _ a=>match a with |[.list (.ints .i64 [100000]), .int .i64 n]=>some (decide (ZCD n=true), .row 0 0,some ⟨3,1, .ints .i64 (List.replicate n.toNat 100000)⟩) |_=>none⟩
theorem ZAS:k83f.OK Tryz.prog:=fun pa args r fr h=>by
 simp only[k83f]at h
 split at h
 ·simp only[Option.some.injEq,Prod.mk.injEq,decide_eq_true_eq]at h
  obtain⟨h0,rfl,rfl⟩:=h
  exact ZuI _ (of_decide_eq_true h0)
 ·cases h
def k122:Ctr:=⟨92,0,fun _ a=>match a with |[.list (.flts .f32 [3351465984]), .int .i64 n]=>some (decide (ZCD n=true), .row 0 0,some ⟨131,1, .flts .f32 (List.replicate n.toNat 3351465984)⟩) |_=>none⟩
theorem ZDs:k122.OK Tryz.prog:=fun pa args r fr h=>by
 simp only[k122]at h
 split at h
 ·simp only[Option.some.injEq,Prod.mk.injEq,decide_eq_true_eq]at h
  obtain⟨h0,rfl,rfl⟩:=h
  exact Zxp _ (of_decide_eq_true h0)
 ·cases h
def N4:List Ctr:=[k84,k86,k83,k83f,k122]++N3
theorem ZId:Zar Tryz.prog N4:=⟨ZK1,⟨ZF7,⟨ZGr,⟨ZAS,⟨ZDs,ZN1⟩⟩⟩⟩⟩
end Go.Proofs.YtjhldefnjghcdaaGreat
namespace Go.Proofs.YtjhldefnjghcdaaGreat
set_option maxRecDepth 100000
set_option linter.unusedVariables false
def ZIk(m g0 g1:Int)(xs:zI):AFrame:=vF 75 9 [(0,AV.agg (Row.gen [.int .i64 m, .int .i64 g0, .int .i64 g1, .list (.ints .i64 xs)]))] [.code a75.code] [.tmp 2]
def ZPO(m g0 g1:Int)(xs:zI):List AFrame:=[(ZIk m g0 g1 xs)]
theorem ZBe(m g0 g1:Int)(xs:zI):Zak tab 75 [AV.agg (Row.gen [.int .i64 m, .int .i64 g0, .int .i64 g1, .list (.ints .i64 xs)])]=some (ZIk m g0 g1 xs):=rfl
def ZGT(A:Ar)(K:KT)(F:FT)(m g0 g1:Int)(xs:zI):Prop:=let u0:=A.sub (ZaC xs) m;rB [A.inR .i64 u0,decide (List.length xs≤1000000)] (F (AV.int .i64 u0) none)
theorem ZOm{A:Ar}{K:KT}{F:FT}{M:MT}{m g0 g1:Int}{xs:zI} :Zah A tab N4 75 K F M (.run 9 (.fn)) (ZPO m g0 g1 xs) []=ZGT A K F m g0 g1 xs:=by kernel_rfl
end Go.Proofs.YtjhldefnjghcdaaGreat
namespace Go.Proofs.YtjhldefnjghcdaaGreat
theorem Zui(m p q:Int)(so:zI)(h:so.length≤1000000∧1≤m∧m≤3):ZaK Tryz.prog 75 [.agg (.gen [.int .i64 m, .int .i64 p, .int .i64 q, .list (.ints .i64 so)])] (.int .i64 (ZaC so-m)) none:=
 start (ZBe m p q so) fun C hC=>tgo hC ZId ZOm (by
  have hb:0≤ZaC so∧ZaC so≤1000000:=by unfold ZaC;omega
  simp[ZGT];omega)
theorem ZdC(m g s b:Int):oS m g s b=0∨oS m g s b=1:=by
 unfold oS ZOC
 rcases Nat.mod_two_eq_zero_or_one (ZEy ((ZxF m s b).toNat &&& g.toNat))with h |h<;>rw[h]<;>simp
def gnI(m p q:Int)(so:zI)(t:Nat)(s b:Int):Int:=gaI so t (oS m p s b) (oS m q s b)
theorem Zgi{m p q:Int}{so:zI}(h:ZaF so (-7) 7=0)(t:Nat)(s b:Int): -14≤gnI m p q so t s b∧gnI m p q so t s b≤14:=ZNX h t (ZdC _ _ _ _) (ZdC _ _ _ _)
section
variable (m p q:Int)(so:zI)
def stS:Nat:=(stN m).toNat
def Zab:Nat:=so.length/2
def ZbQ:Nat:=so.length/2-m.toNat
def upR(D:zI)(t:Nat)(s:Nat)(b:Int)(cur:Int):Int:=if -1000000<D.getD (nxS m s b).toNat 0 then max cur (D.getD (nxS m s b).toNat 0+gnI m p q so t s b)else cur
def ZAC(D:zI)(t s:Nat):Int:=if t<ZbQ m so then upR m p q so D t s 1 (upR m p q so D t s 0 (-2000000))else upR m p q so D t s 0 (-2000000)
def dpR:Nat→zI
 |0=>(List.range (stS m)).map fun s=>if s=0 then 0 else -2000000
 |n+1=>(List.range (stS m)).map fun s=>ZAC m p q so (dpR n) (Zab so-1-n) s
def tbR:Nat→Nat→Int→zI
 |0,_,_=>[]
 |j+1,t,s=>if(dpR m p q so (Zab so-t-1)).getD (nxS m s 0).toNat 0+gnI m p q so t s 0=(dpR m p q so (Zab so-t)).getD s.toNat 0 then 0::tbR j (t+1) (nxS m s 0)else 1::tbR j (t+1) (nxS m s 1)
end
structure OkC (m p q:Int) (so:zI):Prop where
 cv:ZaI m p q=0
 sf:sfE m so=0
theorem OkC.soft{m p q:Int}{so:zI}(h:OkC m p q so):ZaF so (-7) 7=0∧so.length%2=0∧2*m≤so.length∧so.length≤606:=by
 have hm:=(Zan h.cv).1
 have:=h.sf
 unfold sfE at this
 split at this
 ·cases this
 ·rename_i h1
  split at this
  ·cases this
  ·rename_i h2
   exact⟨this,by omega,by omega,by omega⟩
theorem Zbe{m:Int}(h:m=1∨m=2∨m=3):(stS m=2∨stS m=4∨stS m=8)∧(stS m:Int)=stN m:=by
 have h2:=ZmA (m:=m) (by omega)
 unfold stS;omega
theorem Zbk{m p q:Int}{so:zI}(h:OkC m p q so){s:Nat}(hs:s<stS m){b:Int}(hb:b=0∨b=1):Zi9 m p q s b=true∧0≤nxS m s b∧(nxS m s b).toNat<stS m:=by
 have hm:=(Zan h.cv).1
 have h2:=Zbe hm
 obtain⟨r0,r1,r2,r3,r4⟩:=Zxf (m:=m) (s:=s) (b:=b) hm (by omega) hb
 exact⟨decide_eq_true ⟨h.cv,by omega,by omega,hb⟩,r2,by omega⟩
section
variable (m p q:Int)(so:zI)
theorem Zws(n:Nat):(dpR m p q so n).length=stS m:=by cases n<;>simp[dpR]
theorem Zn6{s:Nat}(h:s<stS m):(dpR m p q so 0).getD s 0=if s=0 then 0 else -2000000:=by
 rw[dpR,List.getD_eq_getElem?_getD,List.getElem?_map,List.getElem?_range h];rfl
theorem ZfW{n s:Nat}(h:s<stS m):(dpR m p q so (n+1)).getD s 0=ZAC m p q so (dpR m p q so n) (Zab so-1-n) s:=by
 rw[dpR,List.getD_eq_getElem?_getD,List.getElem?_map,List.getElem?_range h];rfl
end
theorem ZK0{m p q:Int}{so D:zI}{U:Int}(hg:ZaF so (-7) 7=0)(t s:Nat)(b cur:Int)(hD:∀j, -2000000≤D.getD j 0∧D.getD j 0≤U)(hc: -2000000≤cur∧cur≤U+14): -2000000≤upR m p q so D t s b cur∧upR m p q so D t s b cur≤U+14:=by
 have h1:=Zgi (m:=m) (p:=p) (q:=q) hg t s b
 have h2:=hD (nxS m s b).toNat
 unfold upR
 split
 ·omega
 ·exact hc
theorem ZJN{m p q:Int}{so:zI}(hg:ZaF so (-7) 7=0):∀n j:Nat, -2000000≤(dpR m p q so n).getD j 0∧(dpR m p q so n).getD j 0≤14*n
 |0,j=>by
  by_cases h:j<stS m
  ·rw[Zn6 m p q so h];split<;>simp
  ·rw[List.getD_eq_getElem?_getD,List.getElem?_eq_none (by rw[Zws];omega)];simp
 |n+1,j=>by
  have ih:=ZJN (m:=m) (p:=p) (q:=q) hg n
  by_cases h:j<stS m
  ·rw[ZfW m p q so h,ZAC]
   have h0:=ZK0 (m:=m) (p:=p) (q:=q) hg (Zab so-1-n) j 0 (-2000000) ih (by omega)
   split
   ·have:=ZK0 (m:=m) (p:=p) (q:=q) hg (Zab so-1-n) j 1 _ ih h0
    omega
   ·omega
  ·rw[List.getD_eq_getElem?_getD,List.getElem?_eq_none (by rw[Zws];omega)];simp;omega
@[simp] theorem Za7 (l:List Nat):std.lenF l=l.length:=rfl
@[simp] theorem Zbq (l:List Nat) (j:Nat):std.nthF l j=l.getD j 0:=rfl
@[simp] theorem ZAx (l:List Nat) (j x:Nat):std.setF l j x=l.set j x:=rfl
@[simp] theorem ZOu (n x:Nat):std.repF n x=List.replicate n x:=rfl
@[simp] theorem ZO1 (a b:List Nat):std.appF a b=a++b:=rfl
section
variable {C:Ctx}(hC:C.P=Tryz.prog)(m p q:Int)(so:zI)(h:OkC m p q so)
include hC h
def v0(s:Nat):Int:=if s=0 then 0 else -2000000
end
def bvI(m p q:Int)(so:zI):Int:=(dpR m p q so (Zab so)).getD 0 0
def blI(m p q:Int)(so:zI):zI:=tbR m p q so (ZbQ m so) 0 0
def okI(m p q:Int)(so:zI):Bool:=decide (ZaI m p q=0)&&decide (sfE m so=0)
theorem okI_iff{m p q:Int}{so:zI} :okI m p q so=true↔OkC m p q so:=by
 unfold okI;simp only[Bool.and_eq_true,decide_eq_true_eq];exact⟨fun h=>⟨h.1,h.2⟩,fun h=>⟨h.1,h.2⟩⟩
def Zdp(m:Int)(so:zI):Int:=ZaC so-m
def Zy9(m:Int)(so:zI):Bool:=decide (so.length≤1000000∧1≤m∧m≤3)
def k108:Ctr:=⟨75,0,fun _ a=>match a with |[.agg (.gen [.int .i64 m, .int .i64 _, .int .i64 _, .list (.ints .i64 so)])]=>some (decide (Zy9 m so=true), .int .i64 (Zdp m so),none) |_=>none⟩
theorem ZD0:k108.OK Tryz.prog:=fun pa args r fr h=>by
 simp only[k108]at h
 split at h
 ·simp only[Option.some.injEq,Prod.mk.injEq,decide_eq_true_eq]at h
  obtain⟨h0,rfl,rfl⟩:=h
  exact Zui _ _ _ _ (of_decide_eq_true h0)
 ·cases h
def N5:List Ctr:=[k108]++N4
theorem ZdY:Zar Tryz.prog N5:=⟨ZD0,ZId⟩
end Go.Proofs.YtjhldefnjghcdaaGreat
