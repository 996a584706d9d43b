/- Contracts as a list. No condition. -/
import Derived.Test.YtklbmkllepkjcaaP2
import Derived.KernelRfl
namespace Go.Proofs.Ytklbmkllepkjcaa
theorem Rel.sameA{w:World}{ok:Nat→Prop}{h:Zaa}{L:Lay}{r r':Row}{v:Value}(he:r.elems=r'.elems)(hr:Rel w ok h L (.agg r) v):Rel w ok h L (.agg r') v:=by
 cases hr with
 |agg _ xs hx vs hl h1 hrr=>exact .agg r' xs (hx.trans he) vs hl h1 hrr
theorem Zgf{f:FuncId}{xs ys:List AV}{r r':Row}{x:AV}{fr:Option Fresh}(h:Zai Try.prog f (xs++ .agg r::ys) x fr)(he:r'.elems=r.elems):Zai Try.prog f (xs++ .agg r'::ys) x fr:=by
 intro w okA L vs hargs hok hG
 refine h w okA L vs ⟨by have:=hargs.1;simpa using this,fun j u v hu hv=>?_⟩ hok hG
 rcases Nat.lt_trichotomy j xs.length with hj |hj |hj
 ·rw[List.getElem?_append_left hj]at hu
  exact hargs.2 j u v (by rw[List.getElem?_append_left hj];exact hu) hv
 ·subst hj
  rw[List.getElem?_append_right (Nat.le_refl _)]at hu
  simp only[Nat.sub_self,List.getElem?_cons_zero,Option.some.injEq]at hu
  subst hu
  exact Rel.sameA he (hargs.2 _ _ v (by rw[List.getElem?_append_right (Nat.le_refl _)];simp) hv)
 ·rw[List.getElem?_append_right (by omega),show j-xs.length=(j-xs.length-1)+1 by omega,List.getElem?_cons_succ]at hu
  exact hargs.2 j u v (by rw[List.getElem?_append_right (by omega),show j-xs.length=(j-xs.length-1)+1 by omega,List.getElem?_cons_succ];exact hu) hv
def ZFk(x:Nat):Nat:=x%2+x/2%2+x/4%2+x/8%2
def ZNM(r k:Int):Int:=((ZFk (r.toNat &&& k.toNat)%2:Nat):Int)
theorem Zrb(r k:Nat)(hr:r≤15)(hk:k≤15):std.bits .and .i64 (r:Int) (k:Int)=((r &&& k:Nat):Int):=by
 have h1:∀m:Nat,m≤15→(BitVec.ofInt 64 (m:Int)).toNat=m:=fun m hm=>by
  rw[BitVec.ofInt_natCast,BitVec.toNat_ofNat];exact Nat.mod_eq_of_lt (by omega)
 show IntKind.i64.wrap ((BitVec.ofInt 64 (r:Int) &&& BitVec.ofInt 64 (k:Int)).toNat:Int)=_
 rw[BitVec.toNat_and,h1 r hr,h1 k hk]
 have:= @Nat.and_le_left r k
 rw[IntKind.wrap_i64]
 omega
theorem Zt8:∀ {l:List Bool},l.all (fun b=>b)=true→AllT l
 |[],_=>trivial
 |b::l,h=>by
  simp only[List.all_cons,Bool.and_eq_true]at h
  exact⟨h.1,Zt8 h.2⟩
theorem ZsP(x:Int)(h:0≤x∧x≤15):Zai Try.prog 113 [.int .u64 x] (.int .i64 ((ZFk x.toNat:Nat):Int)) none:=by
 have:x=0∨x=1∨x=2∨x=3∨x=4∨x=5∨x=6∨x=7∨x=8∨x=9∨x=10∨x=11∨x=12∨x=13∨x=14∨x=15:=by omega
 rcases this with rfl |rfl |rfl |rfl |rfl |rfl |rfl |rfl |rfl |rfl |rfl |rfl |rfl |rfl |rfl |rfl<;>
  exact start (Zyt _) fun C hC=>tgo hC ZoM ZHa (by
   simp only[ZzS,ZDh]
   exact⟨Zt8 (by kernel_rfl),by kernel_rfl,trivial⟩)
def ZaP(xs:List Int)(lo hi:Int):Int:=if xs.all (fun x=>Zal x lo hi)=true then 0 else 2
theorem Znx{xs:List Int}{k:Nat}(lo hi:Int)(h:k<xs.length):ZaP (xs.drop k) lo hi=if Zal (xs.getD k 0) lo hi=true then ZaP (xs.drop (k+1)) lo hi else 2:=by
 rw[Zfk h]
 unfold ZaP
 cases hw:Zal (xs.getD k 0) lo hi<;>simp[-List.getD_eq_getElem?_getD,List.all_cons,hw]
section
variable {C:Ctx}(hC:C.P=Try.prog)
include hC
theorem Zrz(xs:List Int)(lo hi:Int)(hl:xs.length≤1000000):∀m k:Nat,k+m=xs.length→Ev C (Zhe xs lo hi xs.length k) (ZfE xs lo hi xs.length k) (ZaI 70 (.int .i64 (ZaP (xs.drop k) lo hi)) none)
 |0,k,hk=>tgo hC ZoM Zkv (by
  rw[List.drop_of_length_le (by omega)]
  simp[ZdQ,show ¬(k:Int)<xs.length by omega,ZaP,Zam])
 |m+1,k,hk=>by
  have ih:=Zrz xs lo hi hl m (k+1) (by omega)
  have hlt:(k:Int)<xs.length:=by omega
  have hlt2:k<xs.length:=by omega
  rw[Znx lo hi hlt2]
  refine tgo hC ZoM Zkv ?_
  cases hw:Zal (xs.getD k 0) lo hi with
  |true=>
   simp[-List.getD_eq_getElem?_getD,ZdQ,hlt,hlt2,hw]
   exact⟨by omega,by simpa using ih⟩
  |false=>simp[-List.getD_eq_getElem?_getD,ZdQ,hlt,hlt2,hw,Zam]
theorem Zok(xs:List Int)(hl:xs.length≤1000000):∀m k:Nat,k+m=xs.length→Ev C (Zjl xs k) (ZhZ xs k) (ZaI 26 (.int .i64 (ZaP (xs.drop k) 0 15)) none)
 |0,k,hk=>tgo hC ZoM ZlD (by
  rw[List.drop_of_length_le (by omega)]
  simp[ZeR,show ¬(k:Int)<xs.length by omega,ZaP])
 |m+1,k,hk=>by
  have ih:=Zok xs hl m (k+1) (by omega)
  have hlt:(k:Int)<xs.length:=by omega
  have hlt2:k<xs.length:=by omega
  rw[Znx _ _ hlt2]
  refine tgo hC ZoM ZlD ?_
  cases hw:Zal (xs.getD k 0) 0 15 with
  |true=>
   simp[-List.getD_eq_getElem?_getD,ZeR,hlt,hlt2,hw]
   exact⟨by omega,by simpa using ih⟩
  |false=>simp[-List.getD_eq_getElem?_getD,ZeR,hlt,hlt2,hw]
end
theorem ZwW(xs:List Int)(lo hi:Int)(hl:xs.length≤1000000):Zai Try.prog 70 [.list (.ints .i64 xs), .int .i64 lo, .int .i64 hi] (.int .i64 (ZaP xs lo hi)) none:=
 start (ZEl xs lo hi) fun C hC=>tgo hC ZoM ZM9 (by
  have:=Zrz hC xs lo hi hl xs.length 0 (by omega)
  simp[ZHb]
  simpa using this)
theorem Zvr(xs:List Int)(hl:xs.length≤1000000):Zai Try.prog 26 [.list (.ints .i64 xs)] (.int .i64 (ZaP xs 0 15)) none:=
 start (ZEi xs) fun C hC=>tgo hC ZoM ZLM (by
  have:=Zok hC xs hl xs.length 0 (by omega)
  simp[ZGu]
  simpa using this)
def stN(m:Int):Int:=2^m.toNat
def Zpk(m:Int):Bool:=decide (1≤m∧m≤3)
theorem Zly{m:Int}(h:1≤m∧m≤3):stN m=2∨stN m=4∨stN m=8:=by
 have:m=1∨m=2∨m=3:=by omega
 rcases this with rfl |rfl |rfl<;>simp[stN]
def k113:Ctr:=⟨113,0,fun _ a=>match a with |[.int .u64 x]=>some (decide (0≤x∧x≤15), .int .i64 ((ZFk x.toNat:Nat):Int),none) |_=>none⟩
theorem ZDD:k113.OK Try.prog:=fun pa args r fr h=>by
 simp only[k113]at h
 split at h
 ·simp only[Option.some.injEq,Prod.mk.injEq,decide_eq_true_eq]at h
  obtain⟨h0,rfl,rfl⟩:=h
  exact ZsP _ h0
 ·cases h
def k70:Ctr:=⟨70,0,fun _ a=>match a with |[.list (.ints .i64 xs), .int .i64 lo, .int .i64 hi]=>some (decide (xs.length≤1000000), .int .i64 (ZaP xs lo hi),none) |_=>none⟩
theorem ZHW:k70.OK Try.prog:=fun pa args r fr h=>by
 simp only[k70]at h
 split at h
 ·simp only[Option.some.injEq,Prod.mk.injEq,decide_eq_true_eq]at h
  obtain⟨h0,rfl,rfl⟩:=h
  exact ZwW _ _ _ h0
 ·cases h
def k26:Ctr:=⟨26,0,fun _ a=>match a with |[.list (.ints .i64 xs)]=>some (decide (xs.length≤1000000), .int .i64 (ZaP xs 0 15),none) |_=>none⟩
theorem ZGI:k26.OK Try.prog:=fun pa args r fr h=>by
 simp only[k26]at h
 split at h
 ·simp only[Option.some.injEq,Prod.mk.injEq,decide_eq_true_eq]at h
  obtain⟨h0,rfl,rfl⟩:=h
  exact Zvr _ h0
 ·cases h
def N2:List Ctr:=[k113,k70,k26]++N1
theorem ZoL:Zay Try.prog N2:=⟨ZDD,⟨ZHW,⟨ZGI,ZoM⟩⟩⟩
end Go.Proofs.Ytklbmkllepkjcaa
/- Paths of functions, printed by the explorer (Gx). No condition. -/
namespace Go.Proofs.Ytklbmkllepkjcaa
set_option maxRecDepth 100000
set_option linter.unusedVariables false
def ZHv(m g0 g1:Int):AFrame:={ fn:=63,N:=15,env:=[(0,AV.agg (.ints .i64 [m,g0,g1]))],todo:=[.code a63.code],defs:=[],rnd:=none,ret:=false,res:=[ARes.tmp 2] }
def ZPC(m g0 g1:Int):List AFrame:=[(ZHv m g0 g1)]
theorem ZEk(m g0 g1:Int):Zaq tab 63 [AV.agg (.ints .i64 [m,g0,g1])]=some (ZHv m g0 g1):=rfl
def ZBB(A:Ar)(K:KT)(F:FT)(m g0 g1:Int):Prop:=rB [Nat.blt 0 (A.len [m,g0,g1]),Nat.blt 0 (A.len [m,g0,g1])] (bB (A.not (Zal (A.nth [m,g0,g1] 0) 1 3)) (F (AV.int .i64 2) (none)) (rB [Zae (Zae (Zae (Nat.ble 3 (A.len [m,g0,g1])) true) true) (decide (List.length (A.sub3 [m,g0,g1] 1 2)≤1000000)),A.inR .i64 (A.sub (A.shl 1 (A.add (A.nth [m,g0,g1] 0) 1)) 1),Zae (Zae (A.le 0 (A.add (A.nth [m,g0,g1] 0) 1)) (Nat.blt (A.nat (A.add (A.nth [m,g0,g1] 0) 1)) 64)) (A.inR .i64 (A.shl 1 (A.add (A.nth [m,g0,g1] 0) 1))),A.inR .i64 (A.add (A.nth [m,g0,g1] 0) 1),Nat.blt 0 (A.len [m,g0,g1])] (F (AV.int .i64 (ZaP (A.sub3 [m,g0,g1] 1 2) 1 (A.sub (A.shl 1 (A.add (A.nth [m,g0,g1] 0) 1)) 1))) (none))))
theorem ZM8{A:Ar}{K:KT}{F:FT}{M:MT}{m g0 g1:Int} :Zaj A tab N2 63 K F M (.run 13 (.tf (.run 5 (.fn)) (.run 5 (.fn)))) (ZPC m g0 g1) []=ZBB A K F m g0 g1:=by kernel_rfl
def ZG3(m g0 g1:Int):AFrame:={ fn:=28,N:=29,env:=[(0,AV.agg (.ints .i64 [m,g0,g1]))],todo:=[.code a28.code],defs:=[],rnd:=none,ret:=false,res:=[ARes.tmp 2] }
def ZQg(m g0 g1:Int):List AFrame:=[(ZG3 m g0 g1)]
theorem ZEV(m g0 g1:Int):Zaq tab 28 [AV.agg (.ints .i64 [m,g0,g1])]=some (ZG3 m g0 g1):=rfl
def ZEh(A:Ar)(K:KT)(F:FT)(m g0 g1:Int):Prop:=rB [Nat.blt 0 (A.len [m,g0,g1])] (qB [A.not (Zal (A.nth [m,g0,g1] 0) 1 3),Nat.blt 0 (A.len [m,g0,g1])] (F (AV.int .i64 2) (none)) (qB [A.not (Zal (A.nth [m,g0,g1] 1) 1 (A.sub (A.shl 2 (A.nth [m,g0,g1] 0)) 1)),A.inR .i64 (A.sub (A.shl 2 (A.nth [m,g0,g1] 0)) 1),Zae (Zae (A.le 0 (A.nth [m,g0,g1] 0)) (Nat.blt (A.nat (A.nth [m,g0,g1] 0)) 64)) (A.inR .i64 (A.shl 2 (A.nth [m,g0,g1] 0))),Nat.blt 0 (A.len [m,g0,g1]),Nat.blt 1 (A.len [m,g0,g1]),!A.not (Zal (A.nth [m,g0,g1] 0) 1 3),Nat.blt 0 (A.len [m,g0,g1])] (F (AV.int .i64 2) (none)) (rB [A.inR .i64 (A.sub (A.shl 2 (A.nth [m,g0,g1] 0)) 1),Zae (Zae (A.le 0 (A.nth [m,g0,g1] 0)) (Nat.blt (A.nat (A.nth [m,g0,g1] 0)) 64)) (A.inR .i64 (A.shl 2 (A.nth [m,g0,g1] 0))),Nat.blt 0 (A.len [m,g0,g1]),Nat.blt 2 (A.len [m,g0,g1]),!A.not (Zal (A.nth [m,g0,g1] 1) 1 (A.sub (A.shl 2 (A.nth [m,g0,g1] 0)) 1)),A.inR .i64 (A.sub (A.shl 2 (A.nth [m,g0,g1] 0)) 1),Zae (Zae (A.le 0 (A.nth [m,g0,g1] 0)) (Nat.blt (A.nat (A.nth [m,g0,g1] 0)) 64)) (A.inR .i64 (A.shl 2 (A.nth [m,g0,g1] 0))),Nat.blt 0 (A.len [m,g0,g1]),Nat.blt 1 (A.len [m,g0,g1]),!A.not (Zal (A.nth [m,g0,g1] 0) 1 3),Nat.blt 0 (A.len [m,g0,g1])] (bB (A.not (Zal (A.nth [m,g0,g1] 2) 1 (A.sub (A.shl 2 (A.nth [m,g0,g1] 0)) 1))) (F (AV.int .i64 2) (none)) (F (AV.int .i64 0) (none))))))
theorem ZLS{A:Ar}{K:KT}{F:FT}{M:MT}{m g0 g1:Int} :Zaj A tab N2 28 K F M (.run 7 (.alt [true,true] (.run 1 (.ty (.run 5 (.fn)))) (.alt [false,true] (.run 1 (.ty (.run 5 (.fn)))) (.alt [false,false] (.run 1 (.tf (.run 5 (.fn)) (.run 6 (.fn)))) (.no))))) (ZQg m g0 g1) []=ZEh A K F m g0 g1:=by kernel_rfl
def ZGz(m g0 g1:Int)(xs:List Int):AFrame:={ fn:=64,N:=30,env:=[(0,AV.agg (.ints .i64 [m,g0,g1])),(1,AV.list (.ints .i64 xs))],todo:=[.code a64.code],defs:=[],rnd:=none,ret:=false,res:=[ARes.tmp 4] }
def ZPb(m g0 g1:Int)(xs:List Int):List AFrame:=[(ZGz m g0 g1 xs)]
theorem ZC5(m g0 g1:Int)(xs:List Int):Zaq tab 64 [AV.agg (.ints .i64 [m,g0,g1]),AV.list (.ints .i64 xs)]=some (ZGz m g0 g1 xs):=rfl
def ZJJ(A:Ar)(K:KT)(F:FT)(m g0 g1:Int)(xs:List Int):Prop:=rB [Nat.blt 0 (A.len [m,g0,g1])] (qB [decide (List.length [Zam (A.le (Go.IntKind.wrap .i64 (A.mul 2 (A.nth [m,g0,g1] 0))) (A.int (A.len xs))) 10,Zam (A.le (A.int (A.len xs)) (Go.IntKind.wrap .i64 (A.mul 2 (Go.IntKind.wrap .i64 (A.add 300 (A.nth [m,g0,g1] 0)))))) 8,ZaP xs (-7) 7]≤1000000),List.all [AV.int .i64 (Zam (A.le (Go.IntKind.wrap .i64 (A.mul 2 (A.nth [m,g0,g1] 0))) (A.int (A.len xs))) 10),AV.int .i64 (Zam (A.le (A.int (A.len xs)) (Go.IntKind.wrap .i64 (A.mul 2 (Go.IntKind.wrap .i64 (A.add 300 (A.nth [m,g0,g1] 0)))))) 8),AV.int .i64 (ZaP xs (-7) 7)] fun x=>AV.bx x&&Nat.beq (Zag A x) 1,decide (List.length xs≤1000000),Nat.blt 0 (A.len [m,g0,g1]),Nat.blt 0 (A.len [m,g0,g1]),A.eq (A.rem (A.int (A.len xs)) 2) 0,A.not (A.eq 2 0)] (F (AV.int .i64 (ZaD [Zam (A.le (Go.IntKind.wrap .i64 (A.mul 2 (A.nth [m,g0,g1] 0))) (A.int (A.len xs))) 10,Zam (A.le (A.int (A.len xs)) (Go.IntKind.wrap .i64 (A.mul 2 (Go.IntKind.wrap .i64 (A.add 300 (A.nth [m,g0,g1] 0)))))) 8,ZaP xs (-7) 7])) (none)) (rB [decide (List.length [10,Zam (A.le (A.int (A.len xs)) (Go.IntKind.wrap .i64 (A.mul 2 (Go.IntKind.wrap .i64 (A.add 300 (A.nth [m,g0,g1] 0)))))) 8,ZaP xs (-7) 7]≤1000000),List.all [AV.int .i64 10,AV.int .i64 (Zam (A.le (A.int (A.len xs)) (Go.IntKind.wrap .i64 (A.mul 2 (Go.IntKind.wrap .i64 (A.add 300 (A.nth [m,g0,g1] 0)))))) 8),AV.int .i64 (ZaP xs (-7) 7)] fun x=>AV.bx x&&Nat.beq (Zag A x) 1,decide (List.length xs≤1000000),Nat.blt 0 (A.len [m,g0,g1]),!A.eq (A.rem (A.int (A.len xs)) 2) 0,A.not (A.eq 2 0)] (F (AV.int .i64 (ZaD [10,Zam (A.le (A.int (A.len xs)) (Go.IntKind.wrap .i64 (A.mul 2 (Go.IntKind.wrap .i64 (A.add 300 (A.nth [m,g0,g1] 0)))))) 8,ZaP xs (-7) 7])) (none))))
theorem ZMr{A:Ar}{K:KT}{F:FT}{M:MT}{m g0 g1:Int}{xs:List Int} :Zaj A tab N2 64 K F M (.run 6 (.tf (.run 2 (.fn)) (.run 2 (.fn)))) (ZPb m g0 g1 xs) []=ZJJ A K F m g0 g1 xs:=by kernel_rfl
def ZJZ(m g0 g1 s b:Int):AFrame:={ fn:=82,N:=35,env:=[(0,AV.agg (.ints .i64 [m,g0,g1])),(1,AV.int .i64 s),(2,AV.int .i64 b)],todo:=[.code a82.code],defs:=[],rnd:=none,ret:=false,res:=[ARes.tmp 6,ARes.cell 7 true 2] }
def ZQC(m g0 g1 s b:Int):List AFrame:=[(ZJZ m g0 g1 s b)]
theorem ZD7(m g0 g1 s b:Int):Zaq tab 82 [AV.agg (.ints .i64 [m,g0,g1]),AV.int .i64 s,AV.int .i64 b]=some (ZJZ m g0 g1 s b):=rfl
def Zei(n0:Int)(l1:List Int)(n2:Int)(l3:List Int):List AFrame:=[{ fn:=82,N:=35,env:=[(7,AV.ptr 82008 0 0 0),(8,AV.int .i64 n0),(18,AV.agg (.ints .i64 l1)),(19,AV.int .i64 n2)],todo:=.code (ACode.gh [] ZHL)::ZL7,defs:=[],rnd:=none,ret:=false,res:=[ARes.tmp 6,ARes.cell 7 true 2] }]
def Zdd(n0:Int)(l1:List Int)(n2:Int)(l3:List Int):Zaa:=[(82008,{ base:=0,blks:=[Blk.row 22 2 (Row.gen [.agg (.ints .i64 l3)])] })]
abbrev ZkY(n0:Int)(l1:List Int)(n2:Int)(l3:List Int):List AFrame×Zaa:=(Zei n0 l1 n2 l3,Zdd n0 l1 n2 l3)
def ZHK(A:Ar)(K:KT)(F:FT)(m g0 g1 s b:Int):Prop:=rB [Nat.ble 3 (A.len [m,g0,g1]),Zae (Zae (A.le 0 (A.nth [m,g0,g1] 0)) (Nat.blt (A.nat (A.nth [m,g0,g1] 0)) 64)) (A.inR .i64 (A.shl b (A.nth [m,g0,g1] 0))),Nat.blt 0 (A.len [m,g0,g1]),Nat.blt 0 (A.len [0,0]),Nat.blt 0 (A.len [m,g0,g1])] (K (ZkY (A.bits Go.BinOp.or .i64 (A.shl b (A.nth [m,g0,g1] 0)) s) (A.sub3 [m,g0,g1] 1 2) (0) ([0,0])))
theorem ZMm{A:Ar}{K:KT}{F:FT}{M:MT}{m g0 g1 s b:Int} :Zaj A tab N2 82 K F M (.run 27 (.hd)) (ZQC m g0 g1 s b) []=ZHK A K F m g0 g1 s b:=by kernel_rfl
def ZeW(A:Ar)(K:KT)(F:FT)(n0:Int)(l1:List Int)(n2:Int)(l3:List Int):Prop:=bB (A.lt n2 2) (rB [A.inR .i64 (A.add n2 1),Nat.blt (0+A.nat n2) 2,Zae (A.le 0 n2) (A.lt n2 (A.int 2)),A.not (A.eq 2 0),decide (0≤A.bits Go.BinOp.and .i64 n0 (A.nth l1 (A.nat n2))∧A.bits Go.BinOp.and .i64 n0 (A.nth l1 (A.nat n2))≤15),A.inR .u64 (A.bits Go.BinOp.and .i64 n0 (A.nth l1 (A.nat n2))),Zae (Zae (A.le 0 n2) (A.lt n2 (A.int 2))) (Nat.blt (A.nat n2) (A.len l1))] (K (ZkY (n0) (l1) (A.add n2 1) (A.set l3 (0+A.nat n2) (A.rem (↑(ZFk (Int.toNat (A.bits Go.BinOp.and .i64 n0 (A.nth l1 (A.nat n2)))))) 2))))) (rB [Nat.beq (A.len (A.sub3 l3 0 2)) 2,Nat.ble 2 (A.len l3),Zae (A.le 0 1) (Nat.blt (A.nat 1) 64)] (rB [Zae (Zae (Nat.ble 2 (A.len (A.sub3 l3 0 2))) true) true] (F (AV.tup [AV.int .i64 (A.shr n0 1),AV.agg (.ints .i64 (A.sub3 (A.sub3 l3 0 2) 0 2))]) (none))))
theorem Zg2{A:Ar}{K:KT}{F:FT}{M:MT}{n0:Int}{l1:List Int}{n2:Int}{l3:List Int} :Zaj A tab N2 82 K F M (.run 6 (.tf (.run 28 (.hd)) (.run 4 (.fn)))) (Zei n0 l1 n2 l3) (Zdd n0 l1 n2 l3)=ZeW A K F n0 l1 n2 l3:=by kernel_rfl
end Go.Proofs.Ytklbmkllepkjcaa
/- Contracts as a list. No condition. -/
namespace Go.Proofs.Ytklbmkllepkjcaa
def ZaB(m p q:Int):Int:=if ¬(1≤m∧m≤3)then 2 else if(1≤p∧p≤2*stN m-1)∧(1≤q∧q≤2*stN m-1)then 0 else 2
theorem Zap{m p q:Int}(h:ZaB m p q=0):(m=1∨m=2∨m=3)∧1≤p∧p≤2*stN m-1∧1≤q∧q≤2*stN m-1∧p≤15∧q≤15:=by
 unfold ZaB at h
 split at h
 ·cases h
 ·rename_i h1
  split at h
  ·rename_i h2
   have h3:=Zly (show 1≤m∧m≤3 by omega)
   exact⟨by omega,by omega,by omega,by omega,by omega,by omega,by omega⟩
  ·cases h
theorem ZnM(m p q:Int):Zai Try.prog 28 [.agg (.ints .i64 [m,p,q])] (.int .i64 (ZaB m p q)) none:=
 start (ZEV m p q) fun C hC=>tgo hC ZoL ZLS (by
  by_cases h1:1≤m∧m≤3
  ·have h3:=Zly h1
   have hm:0≤m∧m≤64:=by omega
   have hw:Zal m 1 3=true:=decide_eq_true h1
   have e:(2:Int)*2^m.toNat=2*stN m:=rfl
   simp only[ZEh,Zbu,List.getD_cons_zero,List.getD_cons_succ,Zyl,e,Zp2]
   cases hp:Zal p 1 (2*stN m-1)with
   |false=>
    have:¬(1≤p∧p≤2*stN m-1):=of_decide_eq_false hp
    simp[Zpy,hw,hp,ZaB,h1,this];omega
   |true=>
    have hp2:1≤p∧p≤2*stN m-1:=of_decide_eq_true hp
    cases hq:Zal q 1 (2*stN m-1)with
    |false=>
     have:¬(1≤q∧q≤2*stN m-1):=of_decide_eq_false hq
     simp[Zpy,hw,hp,hq,ZaB,h1,hp2,this];omega
    |true=>
     have hq2:1≤q∧q≤2*stN m-1:=of_decide_eq_true hq
     simp[Zpy,hw,hp,hq,ZaB,h1,hp2,hq2];omega
  ·have hw:Zal m 1 3=false:=decide_eq_false h1
   simp[ZEh,Zpy,hw,ZaB,h1])
theorem ZnL(m p q:Int):Zai Try.prog 63 [.agg (.ints .i64 [m,p,q])] (.int .i64 (ZaB m p q)) none:=
 start (ZEk m p q) fun C hC=>tgo hC ZoL ZM8 (by
  by_cases h1:1≤m∧m≤3
  ·have h3:=Zly h1
   have hw:Zal m 1 3=true:=decide_eq_true h1
   have e:(1:Int)*2^(m+1).toNat=2*stN m:=by
    rw[show (m+1).toNat=m.toNat+1 by omega,Int.pow_succ,Int.one_mul,Int.mul_comm];rfl
   simp only[ZBB,Zbu,List.getD_cons_zero,Zgd,Zyl,e,Zp2,ZzP]
   have hr:ZaP [p,q] 1 (2*stN m-1)=ZaB m p q:=by
    have hc:ZaB m p q=if(1≤p∧p≤2*stN m-1)∧(1≤q∧q≤2*stN m-1)then 0 else 2:=by
     unfold ZaB;rw[if_neg (fun h=>h h1)]
    rw[hc]
    unfold ZaP
    by_cases h2:(1≤p∧p≤2*stN m-1)∧(1≤q∧q≤2*stN m-1)
    ·rw[if_pos h2,if_pos (by simp[Zal,h2])]
    ·rw[if_neg h2,if_neg (fun h=>h2 (by simpa[Zal]using h))]
   simp[hw,hr];omega
  ·have hw:Zal m 1 3=false:=decide_eq_false h1
   simp[ZBB,hw,ZaB,h1])
def ZwB(m s b:Int):Int:=b*stN m+s
def nxS(m s b:Int):Int:=ZwB m s b/2
def oS(m g s b:Int):Int:=ZNM (ZwB m s b) g
theorem ZmT(r k:Nat)(hr:r≤15)(hk:k≤15):std.bits .or .i64 (r:Int) (k:Int)=((r ||| k:Nat):Int):=by
 have h1:∀m:Nat,m≤15→(BitVec.ofInt 64 (m:Int)).toNat=m:=fun m hm=>by
  rw[BitVec.ofInt_natCast,BitVec.toNat_ofNat];exact Nat.mod_eq_of_lt (by omega)
 show IntKind.i64.wrap ((BitVec.ofInt 64 (r:Int) ||| BitVec.ofInt 64 (k:Int)).toNat:Int)=_
 rw[BitVec.toNat_or,h1 r hr,h1 k hk]
 have:r ||| k<2^4:=Nat.or_lt_two_pow (by omega) (by omega)
 rw[IntKind.wrap_i64]
 omega
def ZjQ(m p q s b:Int):Bool:=decide (ZaB m p q=0∧0≤s∧s<stN m∧(b=0∨b=1))
theorem Zwm{m s b:Int}(hm:m=1∨m=2∨m=3)(hs:0≤s∧s<stN m)(hb:b=0∨b=1):0≤ZwB m s b∧ZwB m s b≤15∧0≤nxS m s b∧nxS m s b<stN m∧ZwB m s b<2*stN m:=by
 unfold nxS ZwB
 rcases hm with rfl |rfl |rfl<;>rcases hb with rfl |rfl<;>simp[stN]at hs⊢ <;>omega
theorem Zvm:∀m,m<4→∀B,B<2→∀S,S<8→S<2^m→B*2^m ||| S=B*2^m+S:=by decide
theorem ZJn{m s b:Int}(hm:m=1∨m=2∨m=3)(hs:0≤s∧s<stN m)(hb:b=0∨b=1):std.bits .or .i64 (b*2^m.toNat) s=ZwB m s b:=by
 obtain⟨S,rfl⟩:=Int.eq_ofNat_of_zero_le hs.1
 have hS:=hs.2
 unfold ZwB
 rcases hm with rfl |rfl |rfl<;>rcases hb with rfl |rfl<;>simp[stN]at hS⊢
 all_goals
  first
  |(have:=ZmT 0 S (by omega) (by omega);simpa using this)
  |(have:=ZmT 2 S (by omega) (by omega);have h2:=Zvm 1 (by omega) 1 (by omega) S (by omega) (by omega);simp at h2;rw[h2]at this;simpa using this)
  |(have:=ZmT 4 S (by omega) (by omega);have h2:=Zvm 2 (by omega) 1 (by omega) S (by omega) (by omega);simp at h2;rw[h2]at this;simpa using this)
  |(have:=ZmT 8 S (by omega) (by omega);have h2:=Zvm 3 (by omega) 1 (by omega) S (by omega) (by omega);simp at h2;rw[h2]at this;simpa using this)
theorem Zwj{m:Int}(hm:m=1∨m=2∨m=3):(2:Int)^m.toNat≤8∧2≤(2:Int)^m.toNat:=by
 rcases hm with rfl |rfl |rfl<;>decide
theorem ZnH(m p q s b:Int)(hv:ZaB m p q=0)(hs:0≤s∧s<stN m)(hb:b=0∨b=1):Zai Try.prog 82 [.agg (.ints .i64 [m,p,q]), .int .i64 s, .int .i64 b] (.tup [.int .i64 (nxS m s b), .agg (.ints .i64 [oS m p s b,oS m q s b])]) none:=by
 obtain⟨hm,p1,p2,q1,q2,p3,q3⟩:=Zap hv
 obtain⟨r0,r1,r2,r3,r4⟩:=Zwm hm hs hb
 have hw:=Zwj hm
 have hb2:0≤b*2^m.toNat∧b*2^m.toNat≤8:=by rcases hb with rfl |rfl<;>omega
 have ho:=ZJn hm hs hb
 obtain⟨R,hR⟩:=Int.eq_ofNat_of_zero_le r0
 obtain⟨P,rfl⟩:=Int.eq_ofNat_of_zero_le (show 0≤p by omega)
 obtain⟨Q,rfl⟩:=Int.eq_ofNat_of_zero_le (show 0≤q by omega)
 have b0:∀k:Nat,k≤15→0≤std.bits .and .i64 (R:Int) (k:Int)∧std.bits .and .i64 (R:Int) (k:Int)≤15:=fun k hk=>by
  rw[Zrb R k (by omega) hk];have:= @Nat.and_le_left R k;omega
 have u0:∀k:Nat,k≤15→std.inR .u64 (std.bits .and .i64 (R:Int) (k:Int))=true:=fun k hk=>by
  have:=b0 k hk
  exact decide_eq_true ⟨by show(0:Int)≤_;omega,by show _≤(18446744073709551615:Int);omega⟩
 have hk:∀k:Nat,k≤15→Int.tmod ((ZFk (Int.toNat (std.bits .and .i64 (R:Int) (k:Int))):Nat):Int) 2=oS m k s b:=fun k hk=>by
  rw[Zrb R k (by omega) hk,oS,hR];rfl
 refine start (ZD7 m P Q s b) fun C hC=>tgo hC ZoL ZMm ?_
 simp only[ZHK,Zbu,List.getD_cons_zero,Zyl,ho,hR,ZzP]
 have two:Ev C (Zei R [(P:Int),(Q:Int)] (2:Nat) [oS m P s b,oS m Q s b]) (Zdd R [(P:Int),(Q:Int)] (2:Nat) [oS m P s b,oS m Q s b]) (ZaI 82 (.tup [.int .i64 (nxS m s b), .agg (.ints .i64 [oS m P s b,oS m Q s b])]) none):=tgo hC ZoL Zg2 (by
  have:nxS m s b=(R:Int).fdiv 2:=by unfold nxS;rw[hR,Int.fdiv_eq_ediv];simp
  simp[ZeW,this])
 have one:Ev C (Zei R [(P:Int),(Q:Int)] (1:Nat) [oS m P s b,0]) (Zdd R [(P:Int),(Q:Int)] (1:Nat) [oS m P s b,0]) (ZaI 82 (.tup [.int .i64 (nxS m s b), .agg (.ints .i64 [oS m P s b,oS m Q s b])]) none):=tgo hC ZoL Zg2 (by
  simp[ZeW,b0 Q (by omega),u0 Q (by omega),hk Q (by omega)]
  simpa using two)
 have zero:Ev C (Zei R [(P:Int),(Q:Int)] (0:Nat) [0,0]) (Zdd R [(P:Int),(Q:Int)] (0:Nat) [0,0]) (ZaI 82 (.tup [.int .i64 (nxS m s b), .agg (.ints .i64 [oS m P s b,oS m Q s b])]) none):=tgo hC ZoL Zg2 (by
  simp[ZeW,b0 P (by omega),u0 P (by omega),hk P (by omega)]
  simpa using one)
 simp
 exact⟨by omega,by simpa using zero⟩
def sfE(m:Int)(so:List Int):Int:=if so.length%2≠0∨(so.length:Int)<2*m then 10 else if 2*(300+m)<(so.length:Int)then 8 else ZaP so (-7) 7
def sfW(m:Int)(so:List Int):Int:=
 ZaD [if so.length%2=0 then Zam (decide (IntKind.i64.wrap (2*m)≤so.length)) 10 else 10,Zam (decide ((so.length:Int)≤IntKind.i64.wrap (2*IntKind.i64.wrap (300+m)))) 8,ZaP so (-7) 7]
theorem Zn0(m p q:Int)(so:List Int)(h:so.length≤1000000):Zai Try.prog 64 [.agg (.ints .i64 [m,p,q]), .list (.ints .i64 so)] (.int .i64 (sfW m so)) none:=
 start (ZC5 m p q so) fun C hC=>tgo hC ZoL ZMr (by
  have ht:((so.length:Nat):Int).tmod 2=((so.length%2:Nat):Int):=rfl
  simp only[ZJJ,Zbu,List.getD_cons_zero,Zp5,Zgd,ZbB,Zd7,ZxQ,ht]
  by_cases h1:so.length%2=0
  ·simp[Zpy,h1,sfW,AV.bx,Zag,h]
  ·have h1':¬(so.length:Int)%2=0:=by omega
   simp[Zpy,h1,h1',sfW,AV.bx,Zag,h])
theorem ZAt{m:Int}{so:List Int}(hm:1≤m∧m≤3):sfW m so=sfE m so:=by
 have w1:IntKind.i64.wrap (2*m)=2*m:=by rw[IntKind.wrap_i64];omega
 have w2:IntKind.i64.wrap (300+m)=300+m:=by rw[IntKind.wrap_i64];omega
 have w3:IntKind.i64.wrap (2*(300+m))=2*(300+m):=by rw[IntKind.wrap_i64];omega
 rw[sfW,sfE,w1,w2,w3]
 by_cases h1:so.length%2=0
 ·by_cases h2:(so.length:Int)<2*m
  ·have:¬(2*m≤so.length):=by omega
   simp[h1,h2,this,ZaD,Zam]
  ·have h2':2*m≤so.length:=by omega
   by_cases h4:2*(300+m)<so.length
   ·have:¬((so.length:Int)≤2*(300+m)):=by omega
    simp[h1,h2,h2',h4,this,ZaD,Zam]
   ·have:(so.length:Int)≤2*(300+m):=by omega
    simp only[h1,h2,h2',h4,this,ZaD,Zam]
    simp
    exact fun e=>e.symm
 ·simp[h1,ZaD]
def k28i:Ctr:=⟨28,0,fun _ a=>match a with |[.agg (.ints .i64 [m,p,q])]=>some (true, .int .i64 (ZaB m p q),none) |_=>none⟩
theorem ZDQ:k28i.OK Try.prog:=fun pa args r fr h=>by
 simp only[k28i]at h
 split at h
 ·cases h
  exact ZnM _ _ _
 ·cases h
def k28g:Ctr:=⟨28,0,fun _ a=>match a with |[.agg (.gen [.int .i64 m, .int .i64 p, .int .i64 q])]=>some (true, .int .i64 (ZaB m p q),none) |_=>none⟩
theorem ZEs:k28g.OK Try.prog:=fun pa args r fr h=>by
 simp only[k28g]at h
 split at h
 ·cases h
  exact Zgf (xs:=[]) (r:=.ints .i64 [_,_,_]) (ZnM _ _ _) rfl
 ·cases h
def k63i:Ctr:=⟨63,0,fun _ a=>match a with |[.agg (.ints .i64 [m,p,q])]=>some (true, .int .i64 (ZaB m p q),none) |_=>none⟩
theorem ZDN:k63i.OK Try.prog:=fun pa args r fr h=>by
 simp only[k63i]at h
 split at h
 ·cases h
  exact ZnL _ _ _
 ·cases h
def k63g:Ctr:=⟨63,0,fun _ a=>match a with |[.agg (.gen [.int .i64 m, .int .i64 p, .int .i64 q])]=>some (true, .int .i64 (ZaB m p q),none) |_=>none⟩
theorem ZCE:k63g.OK Try.prog:=fun pa args r fr h=>by
 simp only[k63g]at h
 split at h
 ·cases h
  exact Zgf (xs:=[]) (r:=.ints .i64 [_,_,_]) (ZnL _ _ _) rfl
 ·cases h
def k82i:Ctr:=⟨82,0,fun _ a=>match a with |[.agg (.ints .i64 [m,p,q]), .int .i64 s, .int .i64 b]=>some (decide (ZjQ m p q s b=true), .tup [.int .i64 (nxS m s b), .agg (.ints .i64 [oS m p s b,oS m q s b])],none) |_=>none⟩
theorem ZCA:k82i.OK Try.prog:=fun pa args r fr h=>by
 simp only[k82i]at h
 split at h
 ·simp only[Option.some.injEq,Prod.mk.injEq,decide_eq_true_eq]at h
  obtain⟨h0,rfl,rfl⟩:=h
  exact ZnH _ _ _ _ _ (of_decide_eq_true h0).1 ⟨(of_decide_eq_true h0).2.1,(of_decide_eq_true h0).2.2.1⟩ (of_decide_eq_true h0).2.2.2
 ·cases h
def k82g:Ctr:=⟨82,0,fun _ a=>match a with |[.agg (.gen [.int .i64 m, .int .i64 p, .int .i64 q]), .int .i64 s, .int .i64 b]=>some (decide (ZjQ m p q s b=true), .tup [.int .i64 (nxS m s b), .agg (.ints .i64 [oS m p s b,oS m q s b])],none) |_=>none⟩
theorem ZEL:k82g.OK Try.prog:=fun pa args r fr h=>by
 simp only[k82g]at h
 split at h
 ·simp only[Option.some.injEq,Prod.mk.injEq,decide_eq_true_eq]at h
  obtain⟨h0,rfl,rfl⟩:=h
  exact Zgf (xs:=[]) (r:=.ints .i64 [_,_,_]) (ZnH _ _ _ _ _ (of_decide_eq_true h0).1 ⟨(of_decide_eq_true h0).2.1,(of_decide_eq_true h0).2.2.1⟩ (of_decide_eq_true h0).2.2.2) rfl
 ·cases h
def k64i:Ctr:=⟨64,0,fun _ a=>match a with |[.agg (.ints .i64 [m,_,_]), .list (.ints .i64 so)]=>some (decide (so.length≤1000000), .int .i64 (sfW m so),none) |_=>none⟩
theorem ZD9:k64i.OK Try.prog:=fun pa args r fr h=>by
 simp only[k64i]at h
 split at h
 ·simp only[Option.some.injEq,Prod.mk.injEq,decide_eq_true_eq]at h
  obtain⟨h0,rfl,rfl⟩:=h
  exact Zn0 _ _ _ _ h0
 ·cases h
def k64g:Ctr:=⟨64,0,fun _ a=>match a with |[.agg (.gen [.int .i64 m, .int .i64 _, .int .i64 _]), .list (.ints .i64 so)]=>some (decide (so.length≤1000000), .int .i64 (sfW m so),none) |_=>none⟩
theorem ZEW:k64g.OK Try.prog:=fun pa args r fr h=>by
 simp only[k64g]at h
 split at h
 ·simp only[Option.some.injEq,Prod.mk.injEq,decide_eq_true_eq]at h
  obtain⟨h0,rfl,rfl⟩:=h
  exact Zgf (xs:=[]) (r:=.ints .i64 [_,_,_]) (Zn0 _ _ _ _ h0) rfl
 ·cases h
def N3:List Ctr:=[k28i,k28g,k63i,k63g,k82i,k82g,k64i,k64g]++N2
theorem ZLR:Zay Try.prog N3:=⟨ZDQ,⟨ZEs,⟨ZDN,⟨ZCE,⟨ZCA,⟨ZEL,⟨ZD9,⟨ZEW,ZoL⟩⟩⟩⟩⟩⟩⟩⟩
end Go.Proofs.Ytklbmkllepkjcaa
/- Contracts as a list. No condition. -/
namespace Go.Proofs.Ytklbmkllepkjcaa
def ZaG(so:List Int):Int:=((so.length/2:Nat):Int)
theorem Zsq(m p q:Int)(so:List Int)(h:so.length≤1000000):Zai Try.prog 84 [.agg (.gen [.int .i64 m, .int .i64 p, .int .i64 q, .list (.ints .i64 so)])] (.int .i64 (ZaG so)) none:=
 start (ZCY m p q so) fun C hC=>tgo hC Zbz ZMX (by
  have ht:((so.length:Nat):Int).tdiv 2=ZaG so:=rfl
  have hb:0≤ZaG so∧ZaG so≤1000000:=by unfold ZaG;omega
  simp only[ZGB,ZvY,ZbB,Zd7,ht]
  simp;omega)
theorem ZpE(m p q:Int)(so:List Int)(h:1≤m∧m≤3):Zai Try.prog 86 [.agg (.gen [.int .i64 m, .int .i64 p, .int .i64 q, .list (.ints .i64 so)])] (.int .i64 (stN m)) none:=
 start (ZBH m p q so) fun C hC=>tgo hC Zbz ZLQ (by
  have h2:=Zly h
  unfold stN at h2⊢
  simp[ZKU];omega)
def gaI(so:List Int)(t:Nat)(a b:Int):Int:=so.getD (2*t) 0*(1-2*a)+so.getD (2*t+1) 0*(1-2*b)
theorem Zez{so:List Int}(h:ZaP so (-7) 7=0)(k:Nat): -7≤so.getD k 0∧so.getD k 0≤7:=by
 unfold ZaP at h
 split at h
 ·rename_i hall
  by_cases hk:k<so.length
  ·have:=List.all_eq_true.1 hall _ (Zbq (d:=0) hk)
   simpa[Zal]using of_decide_eq_true this
  ·rw[List.getD_eq_getElem?_getD,List.getElem?_eq_none (by omega)];simp
 ·cases h
theorem ZLa{so:List Int}(h:ZaP so (-7) 7=0)(t:Nat){a b:Int}(ha:a=0∨a=1)(hb:b=0∨b=1): -14≤gaI so t a b∧gaI so t a b≤14:=by
 have h1:=Zez h (2*t)
 have h2:=Zez h (2*t+1)
 unfold gaI
 rcases ha with rfl |rfl<;>rcases hb with rfl |rfl<;>omega
theorem Zx0(n:Int)(h:n=2∨n=4∨n=8):Zai Try.prog 83 [.list (.ints .i64 [-100000]), .int .i64 n] (.row 0 0) (some ⟨3,1, .ints .i64 (List.replicate n.toNat (-100000))⟩):=by
 rcases h with rfl |rfl |rfl
 ·exact Zab (n:=100000) (l:=[]) follows Zad trivial (by kernel_rfl)
 ·exact Zab (n:=100000) (l:=[]) follows Zad trivial (by kernel_rfl)
 ·exact Zab (n:=100000) (l:=[]) follows Zad trivial (by kernel_rfl)
theorem Zvo(n:Int)(h:n=2∨n=4∨n=8):Zai Try.prog 83 [.list (.ints .i64 [100000]), .int .i64 n] (.row 0 0) (some ⟨3,1, .ints .i64 (List.replicate n.toNat 100000)⟩):=by
 rcases h with rfl |rfl |rfl
 ·exact Zab (n:=100000) (l:=[]) follows Zad trivial (by kernel_rfl)
 ·exact Zab (n:=100000) (l:=[]) follows Zad trivial (by kernel_rfl)
 ·exact Zab (n:=100000) (l:=[]) follows Zad trivial (by kernel_rfl)
theorem ZuS(n:Int)(h:n=2∨n=4∨n=8):Zai Try.prog 122 [.list (.flts .f32 [3351465984]), .int .i64 n] (.row 0 0) (some ⟨118,1, .flts .f32 (List.replicate n.toNat 3351465984)⟩):=by
 rcases h with rfl |rfl |rfl
 ·exact Zab (n:=100000) (l:=[]) follows Zad trivial (by kernel_rfl)
 ·exact Zab (n:=100000) (l:=[]) follows Zad trivial (by kernel_rfl)
 ·exact Zab (n:=100000) (l:=[]) follows Zad trivial (by kernel_rfl)
def ZDY(n:Int):Bool:=decide (n=2∨n=4∨n=8)
def k84:Ctr:=⟨84,0,fun _ a=>match a with |[.agg (.gen [.int .i64 _, .int .i64 _, .int .i64 _, .list (.ints .i64 so)])]=>some (decide (so.length≤1000000), .int .i64 (ZaG so),none) |_=>none⟩
theorem ZGD:k84.OK Try.prog:=fun pa args r fr h=>by
 simp only[k84]at h
 split at h
 ·simp only[Option.some.injEq,Prod.mk.injEq,decide_eq_true_eq]at h
  obtain⟨h0,rfl,rfl⟩:=h
  exact Zsq _ _ _ _ h0
 ·cases h
def k86:Ctr:=⟨86,0,fun _ a=>match a with |[.agg (.gen [.int .i64 m, .int .i64 _, .int .i64 _, .list (.ints .i64 _)])]=>some (decide (Zpk m=true), .int .i64 (stN m),none) |_=>none⟩
theorem ZGv:k86.OK Try.prog:=fun pa args r fr h=>by
 simp only[k86]at h
 split at h
 ·simp only[Option.some.injEq,Prod.mk.injEq,decide_eq_true_eq]at h
  obtain⟨h0,rfl,rfl⟩:=h
  exact ZpE _ _ _ _ (of_decide_eq_true h0)
 ·cases h
def k83:Ctr:=⟨83,0,fun _ a=>match a with |[.list (.ints .i64 [-100000]), .int .i64 n]=>some (decide (ZDY n=true), .row 0 0,some ⟨3,1, .ints .i64 (List.replicate n.toNat (-100000))⟩) |_=>none⟩
theorem ZGM:k83.OK Try.prog:=fun pa args r fr h=>by
 simp only[k83]at h
 split at h
 ·simp only[Option.some.injEq,Prod.mk.injEq,decide_eq_true_eq]at h
  obtain⟨h0,rfl,rfl⟩:=h
  exact Zx0 _ (of_decide_eq_true h0)
 ·cases h
def k83f:Ctr:=⟨83,0,fun _ a=>match a with |[.list (.ints .i64 [100000]), .int .i64 n]=>some (decide (ZDY n=true), .row 0 0,some ⟨3,1, .ints .i64 (List.replicate n.toNat 100000)⟩) |_=>none⟩
theorem ZDI:k83f.OK Try.prog:=fun pa args r fr h=>by
 simp only[k83f]at h
 split at h
 ·simp only[Option.some.injEq,Prod.mk.injEq,decide_eq_true_eq]at h
  obtain⟨h0,rfl,rfl⟩:=h
  exact Zvo _ (of_decide_eq_true h0)
 ·cases h
def k122:Ctr:=⟨122,0,fun _ a=>match a with |[.list (.flts .f32 [3351465984]), .int .i64 n]=>some (decide (ZDY n=true), .row 0 0,some ⟨118,1, .flts .f32 (List.replicate n.toNat 3351465984)⟩) |_=>none⟩
theorem ZC2:k122.OK Try.prog:=fun pa args r fr h=>by
 simp only[k122]at h
 split at h
 ·simp only[Option.some.injEq,Prod.mk.injEq,decide_eq_true_eq]at h
  obtain⟨h0,rfl,rfl⟩:=h
  exact ZuS _ (of_decide_eq_true h0)
 ·cases h
def N4:List Ctr:=[k84,k86,k83,k83f,k122]++N3
theorem ZKf:Zay Try.prog N4:=⟨ZGD,⟨ZGv,⟨ZGM,⟨ZDI,⟨ZC2,ZLR⟩⟩⟩⟩⟩
end Go.Proofs.Ytklbmkllepkjcaa
/- Paths of functions, printed by the explorer (Gx). No condition. -/
namespace Go.Proofs.Ytklbmkllepkjcaa
set_option maxRecDepth 100000
set_option linter.unusedVariables false
def ZBe(m g0 g1:Int)(xs:List Int):AFrame:={ fn:=108,N:=9,env:=[(0,AV.agg (Row.gen [.int .i64 m, .int .i64 g0, .int .i64 g1, .list (.ints .i64 xs)]))],todo:=[.code a108.code],defs:=[],rnd:=none,ret:=false,res:=[ARes.tmp 2] }
def ZNx(m g0 g1:Int)(xs:List Int):List AFrame:=[(ZBe m g0 g1 xs)]
theorem Zzy(m g0 g1:Int)(xs:List Int):Zaq tab 108 [AV.agg (Row.gen [.int .i64 m, .int .i64 g0, .int .i64 g1, .list (.ints .i64 xs)])]=some (ZBe m g0 g1 xs):=rfl
def ZBy(A:Ar)(K:KT)(F:FT)(m g0 g1:Int)(xs:List Int):Prop:=rB [A.inR .i64 (A.sub (ZaG xs) m),decide (List.length xs≤1000000)] (F (AV.int .i64 (A.sub (ZaG xs) m)) (none))
theorem ZJr{A:Ar}{K:KT}{F:FT}{M:MT}{m g0 g1:Int}{xs:List Int} :Zaj A tab N4 108 K F M (.run 9 (.fn)) (ZNx m g0 g1 xs) []=ZBy A K F m g0 g1 xs:=by kernel_rfl
end Go.Proofs.Ytklbmkllepkjcaa
/- Contracts as a list. No condition. -/
namespace Go.Proofs.Ytklbmkllepkjcaa
theorem Zsu(m p q:Int)(so:List Int)(h:so.length≤1000000∧1≤m∧m≤3):Zai Try.prog 108 [.agg (.gen [.int .i64 m, .int .i64 p, .int .i64 q, .list (.ints .i64 so)])] (.int .i64 (ZaG so-m)) none:=
 start (Zzy m p q so) fun C hC=>tgo hC ZKf ZJr (by
  have hb:0≤ZaG so∧ZaG so≤1000000:=by unfold ZaG;omega
  simp[ZBy];omega)
def cdE(m p q:Int)(so:List Int):Int:=if ZaB m p q≠0 then ZaB m p q else sfE m so
theorem Zd0(m g s b:Int):oS m g s b=0∨oS m g s b=1:=by
 unfold oS ZNM
 rcases Nat.mod_two_eq_zero_or_one (ZFk ((ZwB m s b).toNat &&& g.toNat))with h |h<;>rw[h]<;>simp
def gnI(m p q:Int)(so:List Int)(t:Nat)(s b:Int):Int:=gaI so t (oS m p s b) (oS m q s b)
theorem Zh5{m p q:Int}{so:List Int}(h:ZaP so (-7) 7=0)(t:Nat)(s b:Int): -14≤gnI m p q so t s b∧gnI m p q so t s b≤14:=ZLa h t (Zd0 _ _ _ _) (Zd0 _ _ _ _)
section
variable (m p q:Int)(so:List Int)
def stS:Nat:=(stN m).toNat
def Zac:Nat:=so.length/2
def Zb4:Nat:=so.length/2-m.toNat
def upR(D:List Int)(t:Nat)(s:Nat)(b:Int)(cur:Int):Int:=if -1000000<D.getD (nxS m s b).toNat 0 then max cur (D.getD (nxS m s b).toNat 0+gnI m p q so t s b)else cur
def ZAs(D:List Int)(t s:Nat):Int:=if t<Zb4 m so then upR m p q so D t s 1 (upR m p q so D t s 0 (-2000000))else upR m p q so D t s 0 (-2000000)
def dpR:Nat→List Int
 |0=>(List.range (stS m)).map fun s=>if s=0 then 0 else -2000000
 |n+1=>(List.range (stS m)).map fun s=>ZAs m p q so (dpR n) (Zac so-1-n) s
def tbR:Nat→Nat→Int→List Int
 |0,_,_=>[]
 |j+1,t,s=>if(dpR m p q so (Zac so-t-1)).getD (nxS m s 0).toNat 0+gnI m p q so t s 0=(dpR m p q so (Zac so-t)).getD s.toNat 0 then 0::tbR j (t+1) (nxS m s 0)else 1::tbR j (t+1) (nxS m s 1)
end
structure OkC (m p q:Int) (so:List Int):Prop where
 cv:ZaB m p q=0
 sf:sfE m so=0
theorem OkC.soft{m p q:Int}{so:List Int}(h:OkC m p q so):ZaP so (-7) 7=0∧so.length%2=0∧2*m≤so.length∧so.length≤606:=by
 have hm:=(Zap h.cv).1
 have:=h.sf
 unfold sfE at this
 split at this
 ·cases this
 ·rename_i h1
  split at this
  ·cases this
  ·rename_i h2
   exact⟨this,by omega,by omega,by omega⟩
theorem Zbg{m:Int}(h:m=1∨m=2∨m=3):(stS m=2∨stS m=4∨stS m=8)∧(stS m:Int)=stN m:=by
 have h2:=Zly (m:=m) (by omega)
 unfold stS;omega
theorem Zbt{m p q:Int}{so:List Int}(h:OkC m p q so){s:Nat}(hs:s<stS m){b:Int}(hb:b=0∨b=1):ZjQ m p q s b=true∧0≤nxS m s b∧(nxS m s b).toNat<stS m:=by
 have hm:=(Zap h.cv).1
 have h2:=Zbg hm
 obtain⟨r0,r1,r2,r3,r4⟩:=Zwm (m:=m) (s:=s) (b:=b) hm (by omega) hb
 exact⟨decide_eq_true ⟨h.cv,by omega,by omega,hb⟩,r2,by omega⟩
section
variable (m p q:Int)(so:List Int)
theorem Zvu(n:Nat):(dpR m p q so n).length=stS m:=by cases n<;>simp[dpR]
theorem ZmI{s:Nat}(h:s<stS m):(dpR m p q so 0).getD s 0=if s=0 then 0 else -2000000:=by
 rw[dpR,List.getD_eq_getElem?_getD,List.getElem?_map,List.getElem?_range h];rfl
theorem Zgm{n s:Nat}(h:s<stS m):(dpR m p q so (n+1)).getD s 0=ZAs m p q so (dpR m p q so n) (Zac so-1-n) s:=by
 rw[dpR,List.getD_eq_getElem?_getD,List.getElem?_map,List.getElem?_range h];rfl
end
theorem ZF8{m p q:Int}{so D:List Int}{U:Int}(hg:ZaP so (-7) 7=0)(t s:Nat)(b cur:Int)(hD:∀j, -2000000≤D.getD j 0∧D.getD j 0≤U)(hc: -2000000≤cur∧cur≤U+14): -2000000≤upR m p q so D t s b cur∧upR m p q so D t s b cur≤U+14:=by
 have h1:=Zh5 (m:=m) (p:=p) (q:=q) hg t s b
 have h2:=hD (nxS m s b).toNat
 unfold upR
 split
 ·omega
 ·exact hc
theorem ZID{m p q:Int}{so:List Int}(hg:ZaP so (-7) 7=0):∀n j:Nat, -2000000≤(dpR m p q so n).getD j 0∧(dpR m p q so n).getD j 0≤14*n
 |0,j=>by
  by_cases h:j<stS m
  ·rw[ZmI m p q so h];split<;>simp
  ·rw[List.getD_eq_getElem?_getD,List.getElem?_eq_none (by rw[Zvu];omega)];simp
 |n+1,j=>by
  have ih:=ZID (m:=m) (p:=p) (q:=q) hg n
  by_cases h:j<stS m
  ·rw[Zgm m p q so h,ZAs]
   have h0:=ZF8 (m:=m) (p:=p) (q:=q) hg (Zac so-1-n) j 0 (-2000000) ih (by omega)
   split
   ·have:=ZF8 (m:=m) (p:=p) (q:=q) hg (Zac so-1-n) j 1 _ ih h0
    omega
   ·omega
  ·rw[List.getD_eq_getElem?_getD,List.getElem?_eq_none (by rw[Zvu];omega)];simp;omega
@[simp] theorem Zbc (l:List Nat):std.lenF l=l.length:=rfl
@[simp] theorem ZbD (l:List Nat) (j:Nat):std.nthF l j=l.getD j 0:=rfl
@[simp] theorem ZzT (l:List Nat) (j x:Nat):std.setF l j x=l.set j x:=rfl
@[simp] theorem ZNJ (n x:Nat):std.repF n x=List.replicate n x:=rfl
@[simp] theorem ZNT (a b:List Nat):std.appF a b=a++b:=rfl
section
variable {C:Ctx}(hC:C.P=Try.prog)(m p q:Int)(so:List Int)(h:OkC m p q so)
include hC h
def v0(s:Nat):Int:=if s=0 then 0 else -2000000
end
def bvI(m p q:Int)(so:List Int):Int:=(dpR m p q so (Zac so)).getD 0 0
def blI(m p q:Int)(so:List Int):List Int:=tbR m p q so (Zb4 m so) 0 0
def okI(m p q:Int)(so:List Int):Bool:=decide (ZaB m p q=0)&&decide (sfE m so=0)
theorem okI_iff{m p q:Int}{so:List Int} :okI m p q so=true↔OkC m p q so:=by
 unfold okI;simp only[Bool.and_eq_true,decide_eq_true_eq];exact⟨fun h=>⟨h.1,h.2⟩,fun h=>⟨h.1,h.2⟩⟩
def ZdO(m:Int)(so:List Int):Int:=ZaG so-m
def Zxa(m:Int)(so:List Int):Bool:=decide (so.length≤1000000∧1≤m∧m≤3)
def k108:Ctr:=⟨108,0,fun _ a=>match a with |[.agg (.gen [.int .i64 m, .int .i64 _, .int .i64 _, .list (.ints .i64 so)])]=>some (decide (Zxa m so=true), .int .i64 (ZdO m so),none) |_=>none⟩
theorem ZBL:k108.OK Try.prog:=fun pa args r fr h=>by
 simp only[k108]at h
 split at h
 ·simp only[Option.some.injEq,Prod.mk.injEq,decide_eq_true_eq]at h
  obtain⟨h0,rfl,rfl⟩:=h
  exact Zsu _ _ _ _ (of_decide_eq_true h0)
 ·cases h
def N5:List Ctr:=[k108]++N4
theorem Zen:Zay Try.prog N5:=⟨ZBL,ZKf⟩
end Go.Proofs.Ytklbmkllepkjcaa
