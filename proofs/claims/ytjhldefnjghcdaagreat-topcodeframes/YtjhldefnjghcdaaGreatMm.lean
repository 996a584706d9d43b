/- Contracts as a list. No condition. -/
import Derived.Test.YtjhldefnjghcdaaGreatQ5
import Derived.KernelRfl
namespace Go.Proofs.YtjhldefnjghcdaaGreat
def mkA(a:Nat)(inv:Bool)(w:Int):AV:=.agg (.gen [.int .i64 0, .int .i64 a, .bool inv, .int .i64 w, .int .i64 0])
def fnL(mk:zI)(er:Int)(so:zI):Nat→Nat→List AV
 |0,_=>[]
 |k+1,a=>if wA so a mk≤er then mkA a false (wA so a mk)::fnL mk er so k (a+1)else if wB so a mk≤er then mkA a true (wB so a mk)::fnL mk er so k (a+1)else fnL mk er so k (a+1)
section
variable {C:Ctx}(hC:C.P=Tryz.prog)(mk:zI)(le er ve fy sl:Int)(so:zI)(c0:Bool)(hb:Zas mk=true)(hm:1≤mk.length∧mk.length≤32)(hs:so.length≤600)
include hC hb hm hs
theorem ZPY:∀(k a:Nat) (x:List AV),a+k=so.length+1-mk.length→x.length≤a→Ev C (Zjt mk le er ve fy sl so c0 a x) (Zil mk le er ve fy sl so c0 a x) (Zk2 18 (.tup [.list (.big (.agg [.int .i64, .int .i64, .bool, .int .i64, .int .i64]) (x++fnL mk er so k a)), .int .i64 0])):=by
 intro k
 induction k with
 |zero=>
  intro a x ha hx
  rw[fnL,List.append_nil]
  refine Zfo hC Ztz Zmx ?_
  simp[Zc8,show ¬(a:Int)+(mk.length:Int)≤(so.length:Int) by omega]
  exact⟨by omega,_, .same _, .tup ⟨.row _ rfl rfl rfl, .same _ rfl rfl,trivial⟩,rfl⟩
 |succ k ih=>
  intro a x ha hx
  have hw:wrB mk so a=true:=by
   unfold wrB
   rw[hb]
   simp
   omega
  rw[fnL]
  have i0:=fun y=>ih (a+1) (x++[y]) (by omega) (by simp;omega)
  have i1:=ih (a+1) x (by omega) (by omega)
  refine Zfo hC Ztz Zmx ?_
  by_cases e1:wA so a mk≤er
  ·have i0:=i0 (mkA a false (wA so a mk))
   rw[if_pos e1]
   simp[-List.getD_eq_getElem?_getD,List.getD_cons_zero,List.getD_cons_succ,Zc8,show(a:Int)+(mk.length:Int)≤(so.length:Int) by omega,hw,e1,show ¬er<wA so a mk by omega,mkA,AV.bx,Zad]at i0⊢
   exact⟨by omega,⟨by omega,rfl⟩,by omega,i0⟩
  ·rw[if_neg e1]
   by_cases e2:wB so a mk≤er
   ·have i0:=i0 (mkA a true (wB so a mk))
    rw[if_pos e2]
    simp[-List.getD_eq_getElem?_getD,List.getD_cons_zero,List.getD_cons_succ,Zc8,show(a:Int)+(mk.length:Int)≤(so.length:Int) by omega,hw,e1,e2,show er<wA so a mk by omega,mkA,AV.bx,Zad]at i0⊢
    exact⟨by omega,⟨by omega,rfl⟩,by omega,i0⟩
   ·rw[if_neg e2]
    simp[-List.getD_eq_getElem?_getD,List.getD_cons_zero,List.getD_cons_succ,Zc8,show(a:Int)+(mk.length:Int)≤(so.length:Int) by omega,hw,e1,e2,show er<wA so a mk by omega,AV.bx,Zad]at i1⊢
    exact⟨by omega,by omega,i1⟩
theorem ZQ9:∀(k a:Nat),a+k=so.length+1-mk.length→Ev C (ZkN mk le er ve fy sl so c0 a) (ZhL mk le er ve fy sl so c0 a) (Zk2 18 (.tup [.list (.big (.agg [.int .i64, .int .i64, .bool, .int .i64, .int .i64]) (fnL mk er so k a)), .int .i64 0])):=by
 intro k
 induction k with
 |zero=>
  intro a ha
  rw[fnL]
  refine Zfo hC Ztz ZmG ?_
  simp[ZcW,show ¬(a:Int)+(mk.length:Int)≤(so.length:Int) by omega]
  exact⟨by omega,_, .same _, .tup ⟨.nil _ rfl, .same _ rfl rfl,trivial⟩,rfl⟩
 |succ k ih=>
  intro a ha
  have hw:wrB mk so a=true:=by
   unfold wrB
   rw[hb]
   simp
   omega
  rw[fnL]
  have i1:=ih (a+1) (by omega)
  have i0:=fun y=>ZPY hC mk le er ve fy sl so c0 hb hm hs k (a+1) [y] (by omega) (by simp)
  refine Zfo hC Ztz ZmG ?_
  by_cases e1:wA so a mk≤er
  ·have i0:=i0 (mkA a false (wA so a mk))
   rw[if_pos e1]
   simp[-List.getD_eq_getElem?_getD,List.getD_cons_zero,List.getD_cons_succ,ZcW,show(a:Int)+(mk.length:Int)≤(so.length:Int) by omega,hw,e1,show ¬er<wA so a mk by omega,mkA,AV.bx,Zad]at i0⊢
   exact⟨by omega,rfl,by omega,i0⟩
  ·rw[if_neg e1]
   by_cases e2:wB so a mk≤er
   ·have i0:=i0 (mkA a true (wB so a mk))
    rw[if_pos e2]
    simp[-List.getD_eq_getElem?_getD,List.getD_cons_zero,List.getD_cons_succ,ZcW,show(a:Int)+(mk.length:Int)≤(so.length:Int) by omega,hw,e1,e2,show er<wA so a mk by omega,mkA,AV.bx,Zad]at i0⊢
    exact⟨by omega,rfl,by omega,i0⟩
   ·rw[if_neg e2]
    simp[-List.getD_eq_getElem?_getD,List.getD_cons_zero,List.getD_cons_succ,ZcW,show(a:Int)+(mk.length:Int)≤(so.length:Int) by omega,hw,e1,e2,show er<wA so a mk by omega,AV.bx,Zad]at i1⊢
    exact⟨by omega,by omega,i1⟩
end
theorem ZG2{l:zI}(h:sfF l=0):l.length≤600∧ZaF l (-7) 7=0:=by
 unfold sfF at h
 split at h
 ·cases h
 ·exact⟨by omega,h⟩
theorem Zrl{l:zI}(h:ZaF l 0 1=0):Zas l=true:=Zth fun j _=>by
 have:=Znk h (by omega) j
 omega
theorem Zqd(mk:zI)(le er ve fy sl:Int)(so:zI)(h:ruE mk le er ve fy sl=0)(h2:sfF so=0):ZaK Tryz.prog 18 [.agg (.gen [.list (.ints .i64 mk), .int .i64 le, .int .i64 er, .int .i64 ve, .int .i64 fy, .int .i64 sl]), .list (.ints .i64 so)] (.tup [.list (.big (.agg [.int .i64, .int .i64, .bool, .int .i64, .int .i64]) (fnL mk er so (so.length+1-mk.length) 0)), .int .i64 0]) Zk4:=by
 obtain⟨k1,k2,k3⟩:=ZiD (Zqk h).1
 obtain⟨s1,_⟩:=ZG2 h2
 refine ZpE (ZCY mk le er ve fy sl so) fun C hC=>Zfo hC Ztz ZN7 ?_
 have i:=ZQ9 hC mk le er ve fy sl so false (Zrl k3) ⟨k1,k2⟩ s1 (so.length+1-mk.length) 0 (by omega)
 simp[ZJB,h,h2,Zaj,AV.bx,Zad,show so.length≤1000000 by omega]at i⊢
 exact i
def k18s:Ctr:=⟨18,0,fun _ a=>match a with |[.agg (.gen [.list (.ints .i64 mk), .int .i64 le, .int .i64 er, .int .i64 ve, .int .i64 fy, .int .i64 sl]), .list (.ints .i64 so)]=>some (decide (ruE mk le er ve fy sl=0∧sfF so=0), .tup [.list (.big (.agg [.int .i64, .int .i64, .bool, .int .i64, .int .i64]) (fnL mk er so (so.length+1-mk.length) 0)), .int .i64 0],Zk4) |_=>none⟩
theorem ZBW:k18s.OK Tryz.prog:=fun pa args r fr h=>by
 simp only[k18s]at h
 split at h
 ·simp only[Option.some.injEq,Prod.mk.injEq,decide_eq_true_eq]at h
  obtain⟨h0,rfl,rfl⟩:=h
  exact Zqd _ _ _ _ _ _ _ h0.1 h0.2
 ·cases h
def Ve:List Ctr:=[k18s]++Vd
theorem ZGx:Zar Tryz.prog Ve:=⟨ZBW,Ztz⟩
end Go.Proofs.YtjhldefnjghcdaaGreat
namespace Go.Proofs.YtjhldefnjghcdaaGreat
set_option maxRecDepth 100000
set_option linter.unusedVariables false
def ZAd(mk:zI)(le er ve fy sl:Int)(so:zI)(xs:List AV)(fr la co mi:Int)(iv:Bool)(a:Int):AFrame:=vF 107 25 [(0,AV.eptr (AV.agg (Row.gen [.list (.ints .i64 mk), .int .i64 le, .int .i64 er, .int .i64 ve, .int .i64 fy, .int .i64 sl, .list (.ints .i64 so), .list (Row.big (.agg [.int .i64, .int .i64, .bool, .int .i64, .int .i64]) xs), .int .i64 fr, .int .i64 la, .int .i64 co, .int .i64 mi, .bool iv])) 0),vI 1 a] [.code a107.code] [.tmp 4]
def ZMj(mk:zI)(le er ve fy sl:Int)(so:zI)(xs:List AV)(fr la co mi:Int)(iv:Bool)(a:Int):List AFrame:=[(ZAd mk le er ve fy sl so xs fr la co mi iv a)]
theorem Zx0(mk:zI)(le er ve fy sl:Int)(so:zI)(xs:List AV)(fr la co mi:Int)(iv:Bool)(a:Int):Zak tab 107 [AV.eptr (AV.agg (Row.gen [.list (.ints .i64 mk), .int .i64 le, .int .i64 er, .int .i64 ve, .int .i64 fy, .int .i64 sl, .list (.ints .i64 so), .list (Row.big (.agg [.int .i64, .int .i64, .bool, .int .i64, .int .i64]) xs), .int .i64 fr, .int .i64 la, .int .i64 co, .int .i64 mi, .bool iv])) 0,AV.int .i64 a]=some (ZAd mk le er ve fy sl so xs fr la co mi iv a):=rfl
def ZAB(A:Ar)(K:KT)(F:FT)(mk:zI)(le er ve fy sl:Int)(so:zI)(xs:List AV)(fr la co mi:Int)(iv:Bool)(a:Int):Prop:=let u0:=A.len [wA so (Int.toNat a) mk,wB so (Int.toNat a) mk];rB [Nat.beq u0 2,Nat.blt 0 (A.len [0,0]),decide (wrB mk so a=true)] (bB iv (rB [Nat.blt 1 u0] (F (AV.int .i64 (A.nth [wA so (Int.toNat a) mk,wB so (Int.toNat a) mk] 1)) none)) (rB [Nat.blt 0 u0] (F (AV.int .i64 (A.nth [wA so (Int.toNat a) mk,wB so (Int.toNat a) mk] 0)) none)))
theorem ZFt{A:Ar}{K:KT}{F:FT}{M:MT}{mk:zI}{le er ve fy sl:Int}{so:zI}{xs:List AV}{fr la co mi:Int}{iv:Bool}{a:Int} :Zah A tab Ve 107 K F M (.run 15 (.tf (.run 7 (.fn)) (.run 8 (.fn)))) (ZMj mk le er ve fy sl so xs fr la co mi iv a) []=ZAB A K F mk le er ve fy sl so xs fr la co mi iv a:=by kernel_rfl
end Go.Proofs.YtjhldefnjghcdaaGreat
namespace Go.Proofs.YtjhldefnjghcdaaGreat
def waI(mk so:zI)(iv:Bool)(a:Int):Int:=if iv=true then wB so a.toNat mk else wA so a.toNat mk
theorem ZuZ(mk:zI)(le er ve fy sl:Int)(so:zI)(xs:List AV)(fr la co mi:Int)(iv:Bool)(a:Int)(h:wrB mk so a=true):ZaK Tryz.prog 107 [.eptr (.agg (.gen [.list (.ints .i64 mk), .int .i64 le, .int .i64 er, .int .i64 ve, .int .i64 fy, .int .i64 sl, .list (.ints .i64 so), .list (.big (.agg [.int .i64, .int .i64, .bool, .int .i64, .int .i64]) xs), .int .i64 fr, .int .i64 la, .int .i64 co, .int .i64 mi, .bool iv])) 0, .int .i64 a] (.int .i64 (waI mk so iv a)) none:=by
 refine start (Zx0 mk le er ve fy sl so xs fr la co mi iv a) fun C hC=>tgo hC ZGx ZFt ?_
 cases iv<;>simp[ZAB,h,waI]
def k107s:Ctr:=⟨107,0,fun _ a=>match a with |[.eptr (.agg (.gen [.list (.ints .i64 mk), .int .i64 _, .int .i64 _, .int .i64 _, .int .i64 _, .int .i64 _, .list (.ints .i64 so), .list (.big (.agg [.int .i64, .int .i64, .bool, .int .i64, .int .i64]) _), .int .i64 _, .int .i64 _, .int .i64 _, .int .i64 _, .bool iv])) 0, .int .i64 a]=>some (decide (wrB mk so a=true), .int .i64 (waI mk so iv a),none) |_=>none⟩
theorem ZyS:k107s.OK Tryz.prog:=fun pa args r fr h=>by
 simp only[k107s]at h
 split at h
 ·simp only[Option.some.injEq,Prod.mk.injEq,decide_eq_true_eq]at h
  obtain⟨h0,rfl,rfl⟩:=h
  exact ZuZ _ _ _ _ _ _ _ _ _ _ _ _ _ _ h0
 ·cases h
def Vf:List Ctr:=[k107s]++Ve
theorem ZMf:Zar Tryz.prog Vf:=⟨ZyS,ZGx⟩
end Go.Proofs.YtjhldefnjghcdaaGreat
namespace Go.Proofs.YtjhldefnjghcdaaGreat
def inF:Fact:=⟨24,[],(.agg (.gen [(.int .i64 2),(.int .i64 7),(.int .i64 5)])),none⟩
theorem ZH8:ZaK Tryz.prog inF.f inF.args inF.r inF.fr:=Zcy (n:=100000) (l:=[]) follows Zb5 trivial (by kernel_rfl)
def k24s:Ctr:=⟨24,0,fun _ a=>match a with |[]=>some (true, .agg (.gen [.int .i64 2, .int .i64 7, .int .i64 5]),none) |_=>none⟩
theorem ZB0:k24s.OK Tryz.prog:=fun pa args r fr h=>by
 simp only[k24s]at h
 split at h
 ·cases h
  exact ZH8
 ·cases h
def Vg:List Ctr:=[k24s]++Vf
theorem ZH7:Zar Tryz.prog Vg:=⟨ZB0,ZMf⟩
end Go.Proofs.YtjhldefnjghcdaaGreat
namespace Go.Proofs.YtjhldefnjghcdaaGreat
set_option maxRecDepth 100000
set_option linter.unusedVariables false
def ZPf:AFrame:=vF 4 28 [] [.code a4.code] [.tmp 0]
def f4e:List AFrame:=[ZPf]
theorem ZKL:Zak tab 4 []=some ZPf:=rfl
def ZON(A:Ar)(K:KT)(F:FT):Prop:=rB [A.eq 0 0] (rB [A.eq (frI 2 7 5) 5] (rB [A.eq 0 0] (F (AV.bool (A.eq (prI 7 11) 4)) none)))
theorem ZQV{A:Ar}{K:KT}{F:FT}{M:MT} :Zah A tab Vg 4 K F M (.run 28 (.ty (.ty (.ty (.run 1 (.ty (.ty (.ty (.run 1 (.ty (.ty (.ty (.run 4 (.fn)))))))))))))) (f4e ) []=ZON A K F :=by kernel_rfl
end Go.Proofs.YtjhldefnjghcdaaGreat
namespace Go.Proofs.YtjhldefnjghcdaaGreat
theorem ZBn:ZaK Tryz.prog 4 [] (.bool true) none:=by
 refine start ZKL fun C hC=>tgo hC ZH7 ZQV ?_
 have e1:frI 2 7 5=5:=by kernel_rfl
 have e2:prI 7 11=4:=by kernel_rfl
 simp[ZON,e1,e2]
def k4s:Ctr:=⟨4,0,fun _ a=>match a with |[]=>some (true, .bool true,none) |_=>none⟩
theorem ZHP:k4s.OK Tryz.prog:=fun pa args r fr h=>by
 simp only[k4s]at h
 split at h
 ·cases h
  exact ZBn
 ·cases h
def Vh:List Ctr:=[k4s]++Vg
theorem ZNU:Zar Tryz.prog Vh:=⟨ZHP,ZH7⟩
end Go.Proofs.YtjhldefnjghcdaaGreat
namespace Go.Proofs.YtjhldefnjghcdaaGreat
theorem Zzv(xs:zI)(hl:xs.length≤1000000):ZaK Tryz.prog 40 [.list (.ints .i64 xs)] (.list (.ints .i64 xs)) Zk4:=Zvu (sz:=0) (Zjn xs hl) rfl rfl
def k40v:Ctr:=⟨40,0,fun _ a=>match a with |[.list (.ints .i64 xs)]=>some (decide (xs.length≤1000000), .list (.ints .i64 xs),Zk4) |_=>none⟩
theorem ZCh:k40v.OK Tryz.prog:=fun pa args r fr h=>by
 simp only[k40v]at h
 split at h
 ·simp only[Option.some.injEq,Prod.mk.injEq,decide_eq_true_eq]at h
  obtain⟨h0,rfl,rfl⟩:=h
  exact Zzv _ h0
 ·cases h
def Vi:List Ctr:=[k40v]++Vh
theorem ZeZ:Zar Tryz.prog Vi:=⟨ZCh,ZNU⟩
end Go.Proofs.YtjhldefnjghcdaaGreat
namespace Go.Proofs.YtjhldefnjghcdaaGreat
set_option maxRecDepth 100000
set_option linter.unusedVariables false
def ZGN(mk:zI)(le er ve fy sl:Int)(so:zI):AFrame:=vF 20 96 [(0,AV.agg (Row.gen [.list (.ints .i64 mk), .int .i64 le, .int .i64 er, .int .i64 ve, .int .i64 fy, .int .i64 sl])),vL 1 so] [.code a20.code] [.tmp 4,.tmp 5]
def ZQK(mk:zI)(le er ve fy sl:Int)(so:zI):List AFrame:=[(ZGN mk le er ve fy sl so)]
theorem ZAK(mk:zI)(le er ve fy sl:Int)(so:zI):Zak tab 20 [AV.agg (Row.gen [.list (.ints .i64 mk), .int .i64 le, .int .i64 er, .int .i64 ve, .int .i64 fy, .int .i64 sl]),AV.list (.ints .i64 so)]=some (ZGN mk le er ve fy sl so):=rfl
def v0Q:List AItem:=[.inReg [oN 17 (.ncall true 20018 45 [.t 15,.t 16]),mV 14 17,oN 18 (.ext 0 (.t 14)),oN 19 (.ext 1 (.t 14)),mV 6 18,mV 7 19], .code (.gh [.keep [1,2,6,7]] (.seq (.seq (.reg none [mV 20 7,oN 21 (.bin Go.BinOp.neq (.t 20) (cI 0))]) (.cond (.t 21) (.seq (.reg none [mV 22 7,oN 4 (.mov (.c AV.nils)),mV 5 22]) ACode.ret) ACode.skip)) (.seq (.reg none [oN 8 (.mov (.c AV.nils))]) (.gh [.own 8 20094 59 4 (Row.big (.agg [.int .i64, .bool, .int .i64, .ints .i64]) [])] (.seq (.seq (.reg none [mV 23 6,oN 24 (.nilck (.t 23)),oN 25 (.faddr 7 (.t 24)),oN 26 (.load false 1 (.t 25)),oN 27 (.len (.t 26)),oN 28 (.mov (cI 0))]) (.block 0 (.loop Zka))) ZkC)))))]
def Zkl(mk:zI)(le er ve fy sl:Int)(so:zI)(n0 n1 n2:Int)(b3:Bool)(x4:List AV)(n5:Int):List AFrame:=[vF 45 24 [vP 6 42020,(8,AV.fn 70 [])] (vC ZvU Zou) [.tmp 4,.tmp 5],vF 20 96 [(0,AV.agg (Row.gen [.list (.ints .i64 mk), .int .i64 le, .int .i64 er, .int .i64 ve, .int .i64 fy, .int .i64 sl])),vL 1 so,vP 2 20003,(4,AV.nils),vI 5 0,(15,AV.agg (Row.gen [.list (.ints .i64 mk), .int .i64 le, .int .i64 er, .int .i64 ve, .int .i64 fy, .int .i64 sl])),vL 16 so] v0Q [.tmp 4,.tmp 5]]
def Zhv(mk:zI)(le er ve fy sl:Int)(so:zI)(n0 n1 n2:Int)(b3:Bool)(x4:List AV)(n5:Int):Zaa:=[(20003,{ base:=0,blks:=[Blk.row 29 6 (Row.gen [AV.agg (Row.gen [AV.list (.ints .i64 mk),AV.int .i64 le,AV.int .i64 er,AV.int .i64 ve,AV.int .i64 fy,AV.int .i64 sl])])] }),(42020,{ base:=0,blks:=[Blk.row 94 13 (Row.gen [AV.agg (Row.gen [AV.list (.ints .i64 mk),AV.int .i64 le,AV.int .i64 er,AV.int .i64 ve,AV.int .i64 fy,AV.int .i64 sl,AV.list (.ints .i64 so),AV.row 106026 0,AV.int .i64 n0,AV.int .i64 n5,AV.int .i64 n1,AV.int .i64 n2,AV.bool b3])])] }),(106026,{ base:=0,blks:=[Blk.row 52 5 (Row.big (.agg [.int .i64, .int .i64, .bool, .int .i64, .int .i64]) x4)] })]
abbrev ZtK(mk:zI)(le er ve fy sl:Int)(so:zI)(n0 n1 n2:Int)(b3:Bool)(x4:List AV)(n5:Int):List AFrame×Zaa:=(Zkl mk le er ve fy sl so n0 n1 n2 b3 x4 n5,Zhv mk le er ve fy sl so n0 n1 n2 b3 x4 n5)
def v14Q:List AOp:=[oN 22 (.ncallv true 0 (.t 20) [.t 21]),mV 8 22]
def ZpJ(mk:zI)(le er ve fy sl:Int)(so:zI)(n6 n7 n8 n9 n10:Int)(b11:Bool)(n12 n13:Int)(x14:List AV)(n15:Int):List AFrame:=[vF 68 66 [(0,AV.yld 70901 1),vP 2 44003,vI 4 n6] (vC ZyI ZAN) [],{ fn:=70,N:=39,env:=[vP 0 42020,vP 1 70002,vP 2 70003,vP 4 42020,vP 5 42020,vP 6 42020,(7,AV.ptr 42020 0 0 8),vI 8 n7,(9,AV.fn 68 [AV.ptr 44004 0 0 0,AV.ptr 44003 0 0 0])],todo:=[.inRF 70901 1,.inBlock 0, .code (.seq (.reg none [{ d:=none,g:=none,k:=OpK.store 1 (.t 2) (.c (AV.val Go.Value.nilFunc)) }]) ACode.ret)],defs:=[(70901,0)],rnd:=none,ret:=false,res:=[ARes.cell 2 false 1] },vF 45 24 [vP 6 42020,(8,AV.fn 70 []),(18,AV.fn 70 []),vB 19 true,(20,AV.fn 70 []),vP 21 42020] (.inReg v14Q::AItem.inBlock 1::Zou) [.tmp 4,.tmp 5],vF 20 96 [(0,AV.agg (Row.gen [.list (.ints .i64 mk), .int .i64 le, .int .i64 er, .int .i64 ve, .int .i64 fy, .int .i64 sl])),vL 1 so,vP 2 20003,(4,AV.nils),vI 5 0,(15,AV.agg (Row.gen [.list (.ints .i64 mk), .int .i64 le, .int .i64 er, .int .i64 ve, .int .i64 fy, .int .i64 sl])),vL 16 so] v0Q [.tmp 4,.tmp 5]]
def Znx(mk:zI)(le er ve fy sl:Int)(so:zI)(n6 n7 n8 n9 n10:Int)(b11:Bool)(n12 n13:Int)(x14:List AV)(n15:Int):Zaa:=[(20003,{ base:=0,blks:=[Blk.row 29 6 (Row.gen [AV.agg (Row.gen [AV.list (.ints .i64 mk),AV.int .i64 le,AV.int .i64 er,AV.int .i64 ve,AV.int .i64 fy,AV.int .i64 sl])])] }),(42020,{ base:=0,blks:=[Blk.row 94 13 (Row.gen [AV.agg (Row.gen [AV.list (.ints .i64 mk),AV.int .i64 le,AV.int .i64 er,AV.int .i64 ve,AV.int .i64 fy,AV.int .i64 sl,AV.list (.ints .i64 so),AV.row 106026 0,AV.int .i64 n8,AV.int .i64 n15,AV.int .i64 n9,AV.int .i64 n10,AV.bool b11])])] }),(44003,{ base:=0,blks:=[Blk.row 87 1 (Row.gen [.ptr 42020 0 0 0])] }),vG 44004 (.int .i64 n12),(70002,{ base:=0,blks:=[Blk.row 87 1 (Row.gen [.ptr 42020 0 0 0])] }),(70003,{ base:=0,blks:=[Blk.row 123 1 (Row.gen [.val Go.Value.nilFunc])] }),(70901,{ base:=0,blks:=[Blk.dfr,Blk.lp { st:=RSt.ready,fn:=70,N:=39,env:=[vP 0 42020,vP 1 70002,vP 2 70003,vP 4 42020,vP 5 42020,vP 6 42020,(7,AV.ptr 42020 0 0 8),vI 8 n13,(9,AV.fn 68 [AV.ptr 44004 0 0 0,AV.ptr 44003 0 0 0])],params:=[10],asg:=ACode.reg none [oN 3 (.alloc 70004 52 (AV.agg (Row.gen [.int .i64 0, .int .i64 0, .bool false, .int .i64 0, .int .i64 0]))),{ d:=none,g:=none,k:=OpK.store 5 (.t 3) (.t 10) }],body:=ACode.block 1 (.seq (.reg (some [(0,6),(0,7),(1,6),(2,6),(3,6),(4,6)]) [oN 11 (.load false 1 (.t 1)),oN 12 (.load false 1 (.t 1)),oN 13 (.nilck (.t 12)),oN 14 (.faddr 7 (.t 13)),oN 15 (.load false 1 (.t 14)),oN 16 (.load true 5 (.t 3)),oN 17 (.bslice 70018 52 5 [.t 16]),oN 18 (.append 106026 52 5 (.t 15) (.t 17)),oN 19 (.nilck (.t 11)),oN 20 (.faddr 7 (.t 19)),{ d:=none,g:=none,k:=OpK.store 1 (.t 20) (.t 18) }]) (.gh [.keep [1,2,3]] (.seq (.reg (some [(1,10),(2,10),(2,13),(3,10),(3,13),(3,16),(6,10),(7,10)]) [oN 21 (.load false 1 (.t 1)),oN 22 (.load false 1 (.t 1)),oN 23 (.load false 1 (.t 1)),oN 24 (.load false 1 (.t 1)),oN 25 (.faddr 1 (.t 3)),oN 26 (.load false 1 (.t 25)),oN 27 (.faddr 2 (.t 3)),oN 28 (.load false 1 (.t 27)),oN 29 (.nilck (.t 21)),oN 30 (.faddr 9 (.t 29)),{ d:=none,g:=none,k:=OpK.store 1 (.t 30) (.t 26) },oN 31 (.nilck (.t 22)),oN 32 (.faddr 12 (.t 31)),{ d:=none,g:=none,k:=OpK.store 1 (.t 32) (.t 28) },oN 33 (.nilck (.t 23)),oN 34 (.faddr 10 (.t 33)),{ d:=none,g:=none,k:=OpK.store 1 (.t 34) (cI 1) },oN 35 (.nilck (.t 24)),oN 36 (.faddr 11 (.t 35)),{ d:=none,g:=none,k:=OpK.store 1 (.t 36) (cI 0) }]) (.gh [.keep [1,2]] (.seq (.reg none [oN 37 (.load false 1 (.t 1)),oN 38 (.icall 87 [.t 37]),{ d:=none,g:=none,k:=OpK.store 1 (.t 2) (.t 38) }]) ACode.ret))))) }] }),(106026,{ base:=0,blks:=[Blk.row 52 5 (Row.big (.agg [.int .i64, .int .i64, .bool, .int .i64, .int .i64]) x14)] })]
abbrev Zuh(mk:zI)(le er ve fy sl:Int)(so:zI)(n6 n7 n8 n9 n10:Int)(b11:Bool)(n12 n13:Int)(x14:List AV)(n15:Int):List AFrame×Zaa:=(ZpJ mk le er ve fy sl so n6 n7 n8 n9 n10 b11 n12 n13 x14 n15,Znx mk le er ve fy sl so n6 n7 n8 n9 n10 b11 n12 n13 x14 n15)
def ZkW(mk:zI)(le er ve fy sl:Int)(so:zI)(b16:Bool)(x17:List AV)(n18 n19 n20 n21:Int):List AFrame:=[vF 45 24 [vP 6 42020,(8,AV.fn 102 [])] (vC ZvU Zou) [.tmp 4,.tmp 5],vF 20 96 [(0,AV.agg (Row.gen [.list (.ints .i64 mk), .int .i64 le, .int .i64 er, .int .i64 ve, .int .i64 fy, .int .i64 sl])),vL 1 so,vP 2 20003,(4,AV.nils),vI 5 0,(15,AV.agg (Row.gen [.list (.ints .i64 mk), .int .i64 le, .int .i64 er, .int .i64 ve, .int .i64 fy, .int .i64 sl])),vL 16 so] v0Q [.tmp 4,.tmp 5]]
def ZgD(mk:zI)(le er ve fy sl:Int)(so:zI)(b16:Bool)(x17:List AV)(n18 n19 n20 n21:Int):Zaa:=[(20003,{ base:=0,blks:=[Blk.row 29 6 (Row.gen [AV.agg (Row.gen [AV.list (.ints .i64 mk),AV.int .i64 le,AV.int .i64 er,AV.int .i64 ve,AV.int .i64 fy,AV.int .i64 sl])])] }),(42020,{ base:=0,blks:=[Blk.row 94 13 (Row.gen [AV.agg (Row.gen [AV.list (.ints .i64 mk),AV.int .i64 le,AV.int .i64 er,AV.int .i64 ve,AV.int .i64 fy,AV.int .i64 sl,AV.list (.ints .i64 so),AV.row 106026 0,AV.int .i64 n21,AV.int .i64 n18,AV.int .i64 n20,AV.int .i64 n19,AV.bool b16])])] }),(106026,{ base:=0,blks:=[Blk.row 52 5 (Row.big (.agg [.int .i64, .int .i64, .bool, .int .i64, .int .i64]) x17)] })]
abbrev Zgo(mk:zI)(le er ve fy sl:Int)(so:zI)(b16:Bool)(x17:List AV)(n18 n19 n20 n21:Int):List AFrame×Zaa:=(ZkW mk le er ve fy sl so b16 x17 n18 n19 n20 n21,ZgD mk le er ve fy sl so b16 x17 n18 n19 n20 n21)
def ZkB(mk:zI)(le er ve fy sl:Int)(so:zI)(b22:Bool)(x23:List AV)(n24 n25 n26:Int):List AFrame:=[vF 45 24 [vP 6 42020,(8,AV.fn 103 [])] (vC ZvU Zou) [.tmp 4,.tmp 5],vF 20 96 [(0,AV.agg (Row.gen [.list (.ints .i64 mk), .int .i64 le, .int .i64 er, .int .i64 ve, .int .i64 fy, .int .i64 sl])),vL 1 so,vP 2 20003,(4,AV.nils),vI 5 0,(15,AV.agg (Row.gen [.list (.ints .i64 mk), .int .i64 le, .int .i64 er, .int .i64 ve, .int .i64 fy, .int .i64 sl])),vL 16 so] v0Q [.tmp 4,.tmp 5]]
def ZhJ(mk:zI)(le er ve fy sl:Int)(so:zI)(b22:Bool)(x23:List AV)(n24 n25 n26:Int):Zaa:=[(20003,{ base:=0,blks:=[Blk.row 29 6 (Row.gen [AV.agg (Row.gen [AV.list (.ints .i64 mk),AV.int .i64 le,AV.int .i64 er,AV.int .i64 ve,AV.int .i64 fy,AV.int .i64 sl])])] }),(42020,{ base:=0,blks:=[Blk.row 94 13 (Row.gen [AV.agg (Row.gen [AV.list (.ints .i64 mk),AV.int .i64 le,AV.int .i64 er,AV.int .i64 ve,AV.int .i64 fy,AV.int .i64 sl,AV.list (.ints .i64 so),AV.row 106026 0,AV.int .i64 n26,AV.int .i64 n24,AV.int .i64 n25,AV.int .i64 0,AV.bool b22])])] }),(106026,{ base:=0,blks:=[Blk.row 52 5 (Row.big (.agg [.int .i64, .int .i64, .bool, .int .i64, .int .i64]) x23)] })]
abbrev Znp(mk:zI)(le er ve fy sl:Int)(so:zI)(b22:Bool)(x23:List AV)(n24 n25 n26:Int):List AFrame×Zaa:=(ZkB mk le er ve fy sl so b22 x23 n24 n25 n26,ZhJ mk le er ve fy sl so b22 x23 n24 n25 n26)
def Zjj(mk:zI)(le er ve fy sl:Int)(so:zI)(b27:Bool)(x28:List AV)(n29 n30 n31 n32:Int):List AFrame:=[vF 45 24 [vP 6 42020,(8,AV.val Go.Value.nilFunc)] (vC ZvU Zou) [.tmp 4,.tmp 5],vF 20 96 [(0,AV.agg (Row.gen [.list (.ints .i64 mk), .int .i64 le, .int .i64 er, .int .i64 ve, .int .i64 fy, .int .i64 sl])),vL 1 so,vP 2 20003,(4,AV.nils),vI 5 0,(15,AV.agg (Row.gen [.list (.ints .i64 mk), .int .i64 le, .int .i64 er, .int .i64 ve, .int .i64 fy, .int .i64 sl])),vL 16 so] v0Q [.tmp 4,.tmp 5]]
def ZhH(mk:zI)(le er ve fy sl:Int)(so:zI)(b27:Bool)(x28:List AV)(n29 n30 n31 n32:Int):Zaa:=[(20003,{ base:=0,blks:=[Blk.row 29 6 (Row.gen [AV.agg (Row.gen [AV.list (.ints .i64 mk),AV.int .i64 le,AV.int .i64 er,AV.int .i64 ve,AV.int .i64 fy,AV.int .i64 sl])])] }),(42020,{ base:=0,blks:=[Blk.row 94 13 (Row.gen [AV.agg (Row.gen [AV.list (.ints .i64 mk),AV.int .i64 le,AV.int .i64 er,AV.int .i64 ve,AV.int .i64 fy,AV.int .i64 sl,AV.list (.ints .i64 so),AV.row 106026 0,AV.int .i64 n32,AV.int .i64 n30,AV.int .i64 n29,AV.int .i64 n31,AV.bool b27])])] }),(106026,{ base:=0,blks:=[Blk.row 52 5 (Row.big (.agg [.int .i64, .int .i64, .bool, .int .i64, .int .i64]) x28)] })]
abbrev ZhI(mk:zI)(le er ve fy sl:Int)(so:zI)(b27:Bool)(x28:List AV)(n29 n30 n31 n32:Int):List AFrame×Zaa:=(Zjj mk le er ve fy sl so b27 x28 n29 n30 n31 n32,ZhH mk le er ve fy sl so b27 x28 n29 n30 n31 n32)
def v25Q:List AOp:=[mV 46 0,mV 47 5,oN 48 (.icall 106 [.t 46,cI 3,.t 47,cI 0])]
def v24Q:ACode:=.seq (.reg none [oN 2 (.mov (.c (AV.val Go.Value.nilFunc)))]) ACode.ret
def v18Q:List AOp:=[oN 8 (.icall 104 [.t 7,cI 2]),mV 6 8,oN 9 (.ext 0 (.t 6)),oN 10 (.ext 1 (.t 6)),mV 3 9,mV 4 10]
def v16Q:ACode:=.seq (.reg none [oN 2 (.mov (.c (AV.fn 102 [])))]) ACode.ret
def v10Q:List AOp:=[mV 16 0,oN 17 (.nilck (.t 16)),oN 18 (.faddr 9 (.t 17)),oN 19 (.load false 1 (.t 18)),mV 20 0,oN 21 (.nilck (.t 20)),oN 22 (.faddr 0 (.t 21)),oN 23 (.faddr 1 (.t 22)),oN 24 (.load false 1 (.t 23)),oN 25 (.bin Go.BinOp.add (.t 19) (.t 24)),mV 5 25]
def v8Q:ACode:=.seq (.reg none [mV 12 4,oN 13 (.not (.t 12)),mV 11 13]) (.cond (.t 11) v24Q (.seq (.reg none [mV 15 3,mV 14 15]) (.cond (.t 14) v16Q ACode.skip)))
def v6Q:ACode:=.gh [.keep [0,5]] (.seq (.reg (some []) [mV 33 0,oN 34 (.nilck (.t 33)),oN 35 (.faddr 11 (.t 34)),oN 36 (.load false 1 (.t 35)),mV 37 0,oN 38 (.nilck (.t 37)),oN 39 (.faddr 0 (.t 38)),oN 40 (.faddr 4 (.t 39)),oN 41 (.load false 1 (.t 40)),oN 42 (.bin Go.BinOp.gtr (.t 36) (.t 41))]) (.gh [.keep [0,5,42]] (.cond (.t 42) (.seq (.reg none [mV 43 0,mV 44 5,oN 45 (.icall 105 [.t 43,.t 44]),mV 2 45]) ACode.ret) ACode.skip)))
def Zlt(mk:zI)(le er ve fy sl:Int)(so:zI)(b16:Bool)(x17:List AV)(n33 n34 n35 n36 n37 n38:Int):List AFrame:=[vF 104 85 [vP 0 42020,vI 1 2,vI 6 n33,vI 45 n34,vI 46 0] (vC ZuU Zz3) [.tmp 4,.tmp 5],vF 102 53 [vP 0 42020,(2,AV.val Go.Value.nilFunc),vP 7 42020] [.inReg v18Q, .code (.seq (.block 0 v8Q) (.seq (.reg (some []) v10Q) (.gh [.keep [0,5]] (.seq (.seq (.reg none [mV 26 0,oN 27 (.nilck (.t 26)),oN 28 (.faddr 11 (.t 27)),oN 29 (.load false 1 (.t 28)),oN 30 (.bin Go.BinOp.add (.t 29) (cI 1)),oN 31 (.nilck (.t 26)),oN 32 (.faddr 11 (.t 31)),{ d:=none,g:=none,k:=OpK.store 1 (.t 32) (.t 30) }]) v6Q) (.seq (.reg none v25Q) (.seq (.reg none [mV 49 0,mV 50 5,oN 51 (.nilck (.t 49)),oN 52 (.faddr 9 (.t 51)),{ d:=none,g:=none,k:=OpK.store 1 (.t 52) (.t 50) }]) v16Q))))))] [.tmp 2],vF 45 24 [vP 6 42020,(8,AV.fn 102 []),(18,AV.fn 102 []),vB 19 true,(20,AV.fn 102 []),vP 21 42020] (.inReg v14Q::AItem.inBlock 1::Zou) [.tmp 4,.tmp 5],vF 20 96 [(0,AV.agg (Row.gen [.list (.ints .i64 mk), .int .i64 le, .int .i64 er, .int .i64 ve, .int .i64 fy, .int .i64 sl])),vL 1 so,vP 2 20003,(4,AV.nils),vI 5 0,(15,AV.agg (Row.gen [.list (.ints .i64 mk), .int .i64 le, .int .i64 er, .int .i64 ve, .int .i64 fy, .int .i64 sl])),vL 16 so] v0Q [.tmp 4,.tmp 5]]
def Zkb(mk:zI)(le er ve fy sl:Int)(so:zI)(b16:Bool)(x17:List AV)(n33 n34 n35 n36 n37 n38:Int):Zaa:=[(20003,{ base:=0,blks:=[Blk.row 29 6 (Row.gen [AV.agg (Row.gen [AV.list (.ints .i64 mk),AV.int .i64 le,AV.int .i64 er,AV.int .i64 ve,AV.int .i64 fy,AV.int .i64 sl])])] }),(42020,{ base:=0,blks:=[Blk.row 94 13 (Row.gen [AV.agg (Row.gen [AV.list (.ints .i64 mk),AV.int .i64 le,AV.int .i64 er,AV.int .i64 ve,AV.int .i64 fy,AV.int .i64 sl,AV.list (.ints .i64 so),AV.row 106026 0,AV.int .i64 n37,AV.int .i64 n35,AV.int .i64 n38,AV.int .i64 n36,AV.bool b16])])] }),(106026,{ base:=0,blks:=[Blk.row 52 5 (Row.big (.agg [.int .i64, .int .i64, .bool, .int .i64, .int .i64]) x17)] })]
abbrev ZqY(mk:zI)(le er ve fy sl:Int)(so:zI)(b16:Bool)(x17:List AV)(n33 n34 n35 n36 n37 n38:Int):List AFrame×Zaa:=(Zlt mk le er ve fy sl so b16 x17 n33 n34 n35 n36 n37 n38,Zkb mk le er ve fy sl so b16 x17 n33 n34 n35 n36 n37 n38)
def v21Q:ACode:=.gh [.keep [0]] (.seq (.reg none [mV 30 0,oN 31 (.icall 87 [.t 30]),mV 2 31]) ACode.ret)
def v19Q:List AOp:=[oN 7 (.icall 104 [.t 6,cI 1]),mV 5 7,oN 8 (.ext 0 (.t 5)),oN 9 (.ext 1 (.t 5)),mV 3 8,mV 4 9]
def v5Q:ACode:=.seq (.reg none [mV 11 4,oN 12 (.not (.t 11)),mV 10 12]) (.cond (.t 10) v24Q (.seq (.reg none [mV 14 3,oN 15 (.not (.t 14)),mV 13 15]) (.cond (.t 13) (.seq (.reg none [mV 16 0,mV 17 0,oN 18 (.nilck (.t 17)),oN 19 (.faddr 9 (.t 18)),oN 20 (.load false 1 (.t 19)),oN 21 (.bin Go.BinOp.add (.t 20) (cI 1)),oN 22 (.icall 105 [.t 16,.t 21]),mV 2 22]) (.gh [.keep [2]] ACode.ret)) ACode.skip)))
def Zl0(mk:zI)(le er ve fy sl:Int)(so:zI)(b22:Bool)(x23:List AV)(n39 n40 n41 n42 n43:Int):List AFrame:=[vF 104 85 [vP 0 42020,vI 1 1,vI 6 n39,vI 45 n40,vI 46 0] (vC ZuU Zz3) [.tmp 4,.tmp 5],vF 103 32 [vP 0 42020,(2,AV.val Go.Value.nilFunc),vP 6 42020] [.inReg v19Q, .code (.seq (.block 0 v5Q) (.seq (.reg none [mV 23 0,oN 24 (.nilck (.t 23)),oN 25 (.faddr 10 (.t 24)),oN 26 (.load false 1 (.t 25)),oN 27 (.bin Go.BinOp.add (.t 26) (cI 1)),oN 28 (.nilck (.t 23)),oN 29 (.faddr 10 (.t 28)),{ d:=none,g:=none,k:=OpK.store 1 (.t 29) (.t 27) }]) v21Q))] [.tmp 2],vF 45 24 [vP 6 42020,(8,AV.fn 103 []),(18,AV.fn 103 []),vB 19 true,(20,AV.fn 103 []),vP 21 42020] (.inReg v14Q::AItem.inBlock 1::Zou) [.tmp 4,.tmp 5],vF 20 96 [(0,AV.agg (Row.gen [.list (.ints .i64 mk), .int .i64 le, .int .i64 er, .int .i64 ve, .int .i64 fy, .int .i64 sl])),vL 1 so,vP 2 20003,(4,AV.nils),vI 5 0,(15,AV.agg (Row.gen [.list (.ints .i64 mk), .int .i64 le, .int .i64 er, .int .i64 ve, .int .i64 fy, .int .i64 sl])),vL 16 so] v0Q [.tmp 4,.tmp 5]]
def Zkn(mk:zI)(le er ve fy sl:Int)(so:zI)(b22:Bool)(x23:List AV)(n39 n40 n41 n42 n43:Int):Zaa:=[(20003,{ base:=0,blks:=[Blk.row 29 6 (Row.gen [AV.agg (Row.gen [AV.list (.ints .i64 mk),AV.int .i64 le,AV.int .i64 er,AV.int .i64 ve,AV.int .i64 fy,AV.int .i64 sl])])] }),(42020,{ base:=0,blks:=[Blk.row 94 13 (Row.gen [AV.agg (Row.gen [AV.list (.ints .i64 mk),AV.int .i64 le,AV.int .i64 er,AV.int .i64 ve,AV.int .i64 fy,AV.int .i64 sl,AV.list (.ints .i64 so),AV.row 106026 0,AV.int .i64 n42,AV.int .i64 n41,AV.int .i64 n43,AV.int .i64 0,AV.bool b22])])] }),(106026,{ base:=0,blks:=[Blk.row 52 5 (Row.big (.agg [.int .i64, .int .i64, .bool, .int .i64, .int .i64]) x23)] })]
abbrev ZrM(mk:zI)(le er ve fy sl:Int)(so:zI)(b22:Bool)(x23:List AV)(n39 n40 n41 n42 n43:Int):List AFrame×Zaa:=(Zl0 mk le er ve fy sl so b22 x23 n39 n40 n41 n42 n43,Zkn mk le er ve fy sl so b22 x23 n39 n40 n41 n42 n43)
def ZkX(mk:zI)(le er ve fy sl:Int)(so:zI)(b27:Bool)(x28:List AV)(n29 n44 n45 n46 n47:Int)(x48:List AV)(n49:Int):List AFrame:=[vF 20 96 [vL 1 so,vP 2 20003,vP 6 42020,vR 8 20094,vR 26 106026,vI 27 n44,vI 28 n45] (vC ZJx ZNG) [.tmp 4,.tmp 5]]
def ZhY(mk:zI)(le er ve fy sl:Int)(so:zI)(b27:Bool)(x28:List AV)(n29 n44 n45 n46 n47:Int)(x48:List AV)(n49:Int):Zaa:=[(20003,{ base:=0,blks:=[Blk.row 29 6 (Row.gen [AV.agg (Row.gen [AV.list (.ints .i64 mk),AV.int .i64 le,AV.int .i64 er,AV.int .i64 ve,AV.int .i64 fy,AV.int .i64 sl])])] }),(20094,{ base:=0,blks:=[Blk.row 59 4 (Row.big (.agg [.int .i64, .bool, .int .i64, .ints .i64]) x48)] }),(42020,{ base:=0,blks:=[Blk.row 94 13 (Row.gen [AV.agg (Row.gen [AV.list (.ints .i64 mk),AV.int .i64 le,AV.int .i64 er,AV.int .i64 ve,AV.int .i64 fy,AV.int .i64 sl,AV.list (.ints .i64 so),AV.row 106026 0,AV.int .i64 n49,AV.int .i64 n46,AV.int .i64 n29,AV.int .i64 n47,AV.bool b27])])] }),(106026,{ base:=0,blks:=[Blk.row 52 5 (Row.big (.agg [.int .i64, .int .i64, .bool, .int .i64, .int .i64]) x28)] })]
abbrev ZcJ(mk:zI)(le er ve fy sl:Int)(so:zI)(b27:Bool)(x28:List AV)(n29 n44 n45 n46 n47:Int)(x48:List AV)(n49:Int):List AFrame×Zaa:=(ZkX mk le er ve fy sl so b27 x28 n29 n44 n45 n46 n47 x48 n49,ZhY mk le er ve fy sl so b27 x28 n29 n44 n45 n46 n47 x48 n49)
def Znt(mk:zI)(le er ve fy sl:Int)(so:zI)(b16:Bool)(x17:List AV)(n33 n34:Int)(l50:zI)(n51 n52 n53 n54:Int):List AFrame:=[vF 104 85 [vP 0 42020,vI 1 2,vI 6 n33,vI 45 n34,vI 46 0,(52,AV.agg (.ints .i64 l50)),vI 53 0] (vC Zv2 ZzT) [.tmp 4,.tmp 5],vF 102 53 [vP 0 42020,(2,AV.val Go.Value.nilFunc),vP 7 42020] [.inReg v18Q, .code (.seq (.block 0 v8Q) (.seq (.reg (some []) v10Q) (.gh [.keep [0,5]] (.seq (.seq (.reg none [mV 26 0,oN 27 (.nilck (.t 26)),oN 28 (.faddr 11 (.t 27)),oN 29 (.load false 1 (.t 28)),oN 30 (.bin Go.BinOp.add (.t 29) (cI 1)),oN 31 (.nilck (.t 26)),oN 32 (.faddr 11 (.t 31)),{ d:=none,g:=none,k:=OpK.store 1 (.t 32) (.t 30) }]) v6Q) (.seq (.reg none v25Q) (.seq (.reg none [mV 49 0,mV 50 5,oN 51 (.nilck (.t 49)),oN 52 (.faddr 9 (.t 51)),{ d:=none,g:=none,k:=OpK.store 1 (.t 52) (.t 50) }]) v16Q))))))] [.tmp 2],vF 45 24 [vP 6 42020,(8,AV.fn 102 []),(18,AV.fn 102 []),vB 19 true,(20,AV.fn 102 []),vP 21 42020] (.inReg v14Q::AItem.inBlock 1::Zou) [.tmp 4,.tmp 5],vF 20 96 [(0,AV.agg (Row.gen [.list (.ints .i64 mk), .int .i64 le, .int .i64 er, .int .i64 ve, .int .i64 fy, .int .i64 sl])),vL 1 so,vP 2 20003,(4,AV.nils),vI 5 0,(15,AV.agg (Row.gen [.list (.ints .i64 mk), .int .i64 le, .int .i64 er, .int .i64 ve, .int .i64 fy, .int .i64 sl])),vL 16 so] v0Q [.tmp 4,.tmp 5]]
def ZjS(mk:zI)(le er ve fy sl:Int)(so:zI)(b16:Bool)(x17:List AV)(n33 n34:Int)(l50:zI)(n51 n52 n53 n54:Int):Zaa:=[(20003,{ base:=0,blks:=[Blk.row 29 6 (Row.gen [AV.agg (Row.gen [AV.list (.ints .i64 mk),AV.int .i64 le,AV.int .i64 er,AV.int .i64 ve,AV.int .i64 fy,AV.int .i64 sl])])] }),(42020,{ base:=0,blks:=[Blk.row 94 13 (Row.gen [AV.agg (Row.gen [AV.list (.ints .i64 mk),AV.int .i64 le,AV.int .i64 er,AV.int .i64 ve,AV.int .i64 fy,AV.int .i64 sl,AV.list (.ints .i64 so),AV.row 106026 0,AV.int .i64 n53,AV.int .i64 n51,AV.int .i64 n54,AV.int .i64 n52,AV.bool b16])])] }),(106026,{ base:=0,blks:=[Blk.row 52 5 (Row.big (.agg [.int .i64, .int .i64, .bool, .int .i64, .int .i64]) x17)] })]
abbrev Zqj(mk:zI)(le er ve fy sl:Int)(so:zI)(b16:Bool)(x17:List AV)(n33 n34:Int)(l50:zI)(n51 n52 n53 n54:Int):List AFrame×Zaa:=(Znt mk le er ve fy sl so b16 x17 n33 n34 l50 n51 n52 n53 n54,ZjS mk le er ve fy sl so b16 x17 n33 n34 l50 n51 n52 n53 n54)
def Zny(mk:zI)(le er ve fy sl:Int)(so:zI)(b22:Bool)(x23:List AV)(n39 n40:Int)(l55:zI)(n56 n57 n58:Int):List AFrame:=[vF 104 85 [vP 0 42020,vI 1 1,vI 6 n39,vI 45 n40,vI 46 0,(52,AV.agg (.ints .i64 l55)),vI 53 0] (vC Zv2 ZzT) [.tmp 4,.tmp 5],vF 103 32 [vP 0 42020,(2,AV.val Go.Value.nilFunc),vP 6 42020] [.inReg v19Q, .code (.seq (.block 0 v5Q) (.seq (.reg none [mV 23 0,oN 24 (.nilck (.t 23)),oN 25 (.faddr 10 (.t 24)),oN 26 (.load false 1 (.t 25)),oN 27 (.bin Go.BinOp.add (.t 26) (cI 1)),oN 28 (.nilck (.t 23)),oN 29 (.faddr 10 (.t 28)),{ d:=none,g:=none,k:=OpK.store 1 (.t 29) (.t 27) }]) v21Q))] [.tmp 2],vF 45 24 [vP 6 42020,(8,AV.fn 103 []),(18,AV.fn 103 []),vB 19 true,(20,AV.fn 103 []),vP 21 42020] (.inReg v14Q::AItem.inBlock 1::Zou) [.tmp 4,.tmp 5],vF 20 96 [(0,AV.agg (Row.gen [.list (.ints .i64 mk), .int .i64 le, .int .i64 er, .int .i64 ve, .int .i64 fy, .int .i64 sl])),vL 1 so,vP 2 20003,(4,AV.nils),vI 5 0,(15,AV.agg (Row.gen [.list (.ints .i64 mk), .int .i64 le, .int .i64 er, .int .i64 ve, .int .i64 fy, .int .i64 sl])),vL 16 so] v0Q [.tmp 4,.tmp 5]]
def ZjX(mk:zI)(le er ve fy sl:Int)(so:zI)(b22:Bool)(x23:List AV)(n39 n40:Int)(l55:zI)(n56 n57 n58:Int):Zaa:=[(20003,{ base:=0,blks:=[Blk.row 29 6 (Row.gen [AV.agg (Row.gen [AV.list (.ints .i64 mk),AV.int .i64 le,AV.int .i64 er,AV.int .i64 ve,AV.int .i64 fy,AV.int .i64 sl])])] }),(42020,{ base:=0,blks:=[Blk.row 94 13 (Row.gen [AV.agg (Row.gen [AV.list (.ints .i64 mk),AV.int .i64 le,AV.int .i64 er,AV.int .i64 ve,AV.int .i64 fy,AV.int .i64 sl,AV.list (.ints .i64 so),AV.row 106026 0,AV.int .i64 n57,AV.int .i64 n56,AV.int .i64 n58,AV.int .i64 0,AV.bool b22])])] }),(106026,{ base:=0,blks:=[Blk.row 52 5 (Row.big (.agg [.int .i64, .int .i64, .bool, .int .i64, .int .i64]) x23)] })]
abbrev Zqx(mk:zI)(le er ve fy sl:Int)(so:zI)(b22:Bool)(x23:List AV)(n39 n40:Int)(l55:zI)(n56 n57 n58:Int):List AFrame×Zaa:=(Zny mk le er ve fy sl so b22 x23 n39 n40 l55 n56 n57 n58,ZjX mk le er ve fy sl so b22 x23 n39 n40 l55 n56 n57 n58)
def ZHO(A:Ar)(K:KT)(F:FT)(mk:zI)(le er ve fy sl:Int)(so:zI):Prop:=rB [decide (List.length [0,sfF so]≤1000000),List.all [AV.int .i64 0,AV.int .i64 (sfF so)] fun x=>AV.bx x&&Nat.beq (Zad A x) 1,decide (List.length so≤1000000),decide (ruE mk le er ve fy sl=0)] (bB (A.not (A.eq (Zaj [0,sfF so]) 0)) (rB [A.not (A.eq (Zaj [0,sfF so]) 0)] (rB [A.not (A.eq (Zaj [0,sfF so]) 0)] (F (AV.tup [AV.nils,AV.int .i64 (Zaj [0,sfF so])]) none))) (rB [!A.not (A.eq 0 0)] (K (ZtK mk le er ve fy sl so 0 0 0 false [] 0))))
theorem ZMd{A:Ar}{K:KT}{F:FT}{M:MT}{mk:zI}{le er ve fy sl:Int}{so:zI} :Zah A tab Vi 20 K F M (.run 45 (.tf (.run 21 (.ty (.run 21 (.ty (.run 7 (.fn)))))) (.run 25 (.fy (.run 10 (.hd)))))) (ZQK mk le er ve fy sl so) []=ZHO A K F mk le er ve fy sl so:=by kernel_rfl
def Zm8(A:Ar)(K:KT)(F:FT)(mk:zI)(le er ve fy sl:Int)(so:zI)(n0 n1 n2:Int)(b3:Bool)(x4:List AV)(n5:Int):Prop:=K (Zuh mk le er ve fy sl so n0 n0 n0 n1 n2 b3 n0 n0 x4 n5)
theorem Zt9{A:Ar}{K:KT}{F:FT}{M:MT}{mk:zI}{le er ve fy sl:Int}{so:zI}{n0 n1 n2:Int}{b3:Bool}{x4:List AV}{n5:Int} :Zah A tab Vi 20 K F M (.run 7 (.ty (.run 39 (.hd)))) (Zkl mk le er ve fy sl so n0 n1 n2 b3 x4 n5) (Zhv mk le er ve fy sl so n0 n1 n2 b3 x4 n5)=Zm8 A K F mk le er ve fy sl so n0 n1 n2 b3 x4 n5:=by kernel_rfl
def Zmu(A:Ar)(K:KT)(F:FT)(mk:zI)(le er ve fy sl:Int)(so:zI)(n6 n7 n8 n9 n10:Int)(b11:Bool)(n12 n13:Int)(x14:List AV)(n15:Int):Prop:=let u0:=A.nth [wA so (Int.toNat n6) mk,wB so (Int.toNat n6) mk] (0+A.nat 0);let u1:=A.len [wA so (Int.toNat n6) mk,wB so (Int.toNat n6) mk];let u2:=A.appA x14 [AV.agg (Row.gen [.int .i64 0, .int .i64 n6, .bool (A.eq 0 1), .int .i64 u0, .int .i64 0])];let u3:=A.add n6 (A.int (A.len mk));rB [A.inR .i64 u3] (bB (A.le u3 (A.int (A.len so))) (rB [Nat.blt 0 u1,Nat.beq u1 2,Nat.blt 0 (A.len [0,0]),decide (wrB mk so n6=true)] (rB [!A.lt er (A.nth [wA so (Int.toNat n6) mk,wB so (Int.toNat n6) mk] 0)] (rB [Nat.blt (0+A.nat 0) u1,Zac (A.le 0 0) (A.lt 0 (A.int 2))] (rB [A.le u0 er,Nat.blt (0+A.nat 0) u1,Zac (A.le 0 0) (A.lt 0 (A.int 2))] (rB [Nat.ble (A.lenA x14+A.lenA [AV.agg (Row.gen [.int .i64 0, .int .i64 n6, .bool (A.eq 0 1), .int .i64 u0, .int .i64 0])]) 4294967296,List.all [AV.agg (Row.gen [.int .i64 0, .int .i64 n6, .bool (A.eq 0 1), .int .i64 u0, .int .i64 0])] fun x=>AV.bx x&&Nat.beq (Zad A x) 5] (bB (A.le ve 1) (rB [A.not false] (K (Zgo mk le er ve fy sl so (A.eq 0 1) u2 n6 0 1 n8))) (rB [A.not false] (K (Znp mk le er ve fy sl so (A.eq 0 1) u2 n6 1 n8))))))))) (K (ZhI mk le er ve fy sl so b11 x14 n9 n15 n10 n8)))
theorem ZtX{A:Ar}{K:KT}{F:FT}{M:MT}{mk:zI}{le er ve fy sl:Int}{so:zI}{n6 n7 n8 n9 n10:Int}{b11:Bool}{n12 n13:Int}{x14:List AV}{n15:Int} :Zah A tab Vi 20 K F M (.run 5 (.tf (.run 14 (.fy (.run 15 (.ty (.ty (.run 24 (.tf (.run 9 (.ty (.ty (.run 2 (.ty (.run 11 (.hd))))))) (.run 10 (.ty (.ty (.run 2 (.ty (.run 11 (.hd)))))))))))))) (.run 17 (.hd)))) (ZpJ mk le er ve fy sl so n6 n7 n8 n9 n10 b11 n12 n13 x14 n15) (Znx mk le er ve fy sl so n6 n7 n8 n9 n10 b11 n12 n13 x14 n15)=Zmu A K F mk le er ve fy sl so n6 n7 n8 n9 n10 b11 n12 n13 x14 n15:=by kernel_rfl
def Zht(A:Ar)(K:KT)(F:FT)(mk:zI)(le er ve fy sl:Int)(so:zI)(b16:Bool)(x17:List AV)(n18 n19 n20 n21:Int):Prop:=let u1:=A.add n18 le;let u0:=A.add (A.add u1 sl) (A.int (A.len mk));rB [A.inR .i64 u0,A.inR .i64 (A.add u1 sl),A.inR .i64 u1] (bB (A.lt (A.int (A.len so)) u0) (rB [A.not false] (K (ZhI mk le er ve fy sl so b16 x17 n20 n18 n19 n21))) (rB [A.inR .i64 (A.add sl 1)] (K (ZqY mk le er ve fy sl so b16 x17 u1 (A.add sl 1) n18 n19 n21 n20))))
theorem Zm0{A:Ar}{K:KT}{F:FT}{M:MT}{mk:zI}{le er ve fy sl:Int}{so:zI}{b16:Bool}{x17:List AV}{n18 n19 n20 n21:Int} :Zah A tab Vi 20 K F M (.run 7 (.ty (.run 26 (.tf (.run 21 (.ty (.run 11 (.hd)))) (.run 15 (.hd)))))) (ZkW mk le er ve fy sl so b16 x17 n18 n19 n20 n21) (ZgD mk le er ve fy sl so b16 x17 n18 n19 n20 n21)=Zht A K F mk le er ve fy sl so b16 x17 n18 n19 n20 n21:=by kernel_rfl
def ZhN(A:Ar)(K:KT)(F:FT)(mk:zI)(le er ve fy sl:Int)(so:zI)(b22:Bool)(x23:List AV)(n24 n25 n26:Int):Prop:=let u1:=A.add n24 le;let u0:=A.add (A.add u1 sl) (A.int (A.len mk));rB [A.inR .i64 u0,A.inR .i64 (A.add u1 sl),A.inR .i64 u1] (bB (A.lt (A.int (A.len so)) u0) (rB [A.not false] (K (ZhI mk le er ve fy sl so b22 x23 n25 n24 0 n26))) (rB [A.inR .i64 (A.add sl 1)] (K (ZrM mk le er ve fy sl so b22 x23 u1 (A.add sl 1) n24 n26 n25))))
theorem ZmL{A:Ar}{K:KT}{F:FT}{M:MT}{mk:zI}{le er ve fy sl:Int}{so:zI}{b22:Bool}{x23:List AV}{n24 n25 n26:Int} :Zah A tab Vi 20 K F M (.run 7 (.ty (.run 26 (.tf (.run 21 (.ty (.run 11 (.hd)))) (.run 15 (.hd)))))) (ZkB mk le er ve fy sl so b22 x23 n24 n25 n26) (ZhJ mk le er ve fy sl so b22 x23 n24 n25 n26)=ZhN A K F mk le er ve fy sl so b22 x23 n24 n25 n26:=by kernel_rfl
def Zmm(A:Ar)(K:KT)(F:FT)(mk:zI)(le er ve fy sl:Int)(so:zI)(b27:Bool)(x28:List AV)(n29 n30 n31 n32:Int):Prop:=rB [!A.not (A.eq 0 0)] (K (ZcJ mk le er ve fy sl so b27 x28 n29 (A.int (A.lenA x28)) 0 n30 n31 [] n32))
theorem ZtO{A:Ar}{K:KT}{F:FT}{M:MT}{mk:zI}{le er ve fy sl:Int}{so:zI}{b27:Bool}{x28:List AV}{n29 n30 n31 n32:Int} :Zah A tab Vi 20 K F M (.run 7 (.fy (.run 22 (.fy (.run 19 (.hd)))))) (Zjj mk le er ve fy sl so b27 x28 n29 n30 n31 n32) (ZhH mk le er ve fy sl so b27 x28 n29 n30 n31 n32)=Zmm A K F mk le er ve fy sl so b27 x28 n29 n30 n31 n32:=by kernel_rfl
def ZkE(A:Ar)(K:KT)(F:FT)(mk:zI)(le er ve fy sl:Int)(so:zI)(b16:Bool)(x17:List AV)(n33 n34 n35 n36 n37 n38:Int):Prop:=let u0:=A.set [0,0] 0 (A.neg 0);rB [A.lt 0 n34] (rB [Zac (Nat.ble 1 (A.len [0,0])) (Zac (Nat.ble 2 (A.len u0)) true),A.inR .i64 (A.neg 0)] (K (Zqj mk le er ve fy sl so b16 x17 n33 n34 (A.set u0 1 0) n35 n36 n37 n38)))
theorem Zrh{A:Ar}{K:KT}{F:FT}{M:MT}{mk:zI}{le er ve fy sl:Int}{so:zI}{b16:Bool}{x17:List AV}{n33 n34 n35 n36 n37 n38:Int} :Zah A tab Vi 20 K F M (.run 6 (.ty (.run 19 (.hd)))) (Zlt mk le er ve fy sl so b16 x17 n33 n34 n35 n36 n37 n38) (Zkb mk le er ve fy sl so b16 x17 n33 n34 n35 n36 n37 n38)=ZkE A K F mk le er ve fy sl so b16 x17 n33 n34 n35 n36 n37 n38:=by kernel_rfl
def ZjC(A:Ar)(K:KT)(F:FT)(mk:zI)(le er ve fy sl:Int)(so:zI)(b22:Bool)(x23:List AV)(n39 n40 n41 n42 n43:Int):Prop:=let u0:=A.set [0,0] 0 (A.neg 0);rB [A.lt 0 n40] (rB [Zac (Nat.ble 1 (A.len [0,0])) (Zac (Nat.ble 2 (A.len u0)) true),A.inR .i64 (A.neg 0)] (K (Zqx mk le er ve fy sl so b22 x23 n39 n40 (A.set u0 1 0) n41 n42 n43)))
theorem ZqE{A:Ar}{K:KT}{F:FT}{M:MT}{mk:zI}{le er ve fy sl:Int}{so:zI}{b22:Bool}{x23:List AV}{n39 n40 n41 n42 n43:Int} :Zah A tab Vi 20 K F M (.run 6 (.ty (.run 19 (.hd)))) (Zl0 mk le er ve fy sl so b22 x23 n39 n40 n41 n42 n43) (Zkn mk le er ve fy sl so b22 x23 n39 n40 n41 n42 n43)=ZjC A K F mk le er ve fy sl so b22 x23 n39 n40 n41 n42 n43:=by kernel_rfl
def ZeI(A:Ar)(K:KT)(F:FT)(mk:zI)(le er ve fy sl:Int)(so:zI)(b27:Bool)(x28:List AV)(n29 n44 n45 n46 n47:Int)(x48:List AV)(n49:Int):Prop:=let u5:=A.sub n45 1;let ua:=A.nat u5;let u2:=A.nthA x28 ua;let u0:=A.add (u2.cellAt 1).toI (A.int (A.len mk));let u9:=A.nat n45;let u1:=A.nthA x28 u9;let u6:=A.add n45 1;let u3:=rB [A.inR .i64 u6] (K (ZcJ mk le er ve fy sl so b27 x28 n29 n44 u6 n46 n47 x48 n49));let u4:=A.sub3 so (A.nat u0) (A.nat (u1.cellAt 1).toI-A.nat u0);let u7:=A.lenA x28;let u8:=A.nat (u1.cellAt 1).toI;bB (A.lt n45 n44) (rB [Zac (Nat.blt u9 u7) true,Zac (A.le 0 n45) (Nat.blt u9 u7)] (bB (A.eq n45 0) u3 (bB (A.eq (u1.cellAt 0).toI 0) u3 (bB (A.eq (u1.cellAt 0).toI 4) u3 (rB [decide (List.length u4≤1000000),Zac (Zac (A.le 0 u0) (A.le 0 (u1.cellAt 1).toI)) (Zac (Zac (Nat.ble (A.nat u0) u8) (Nat.ble u8 (A.len so))) true),A.inR .i64 u0,Zac (Nat.blt ua u7) true,Zac (A.le 0 u5) (Nat.blt ua u7),A.inR .i64 u5] (rB [!AV.toB (AV.cellAt u2 2)] (rB [A.inR .i64 u6,Nat.ble (A.lenA x48+A.lenA [AV.agg (Row.gen [.int .i64 (u2.cellAt 1).toI, .bool (u2.cellAt 2).toB, .int .i64 (u1.cellAt 4).toI, .list (.ints .i64 u4)])]) 4294967296,List.all [AV.agg (Row.gen [.int .i64 (u2.cellAt 1).toI, .bool (u2.cellAt 2).toB, .int .i64 (u1.cellAt 4).toI, .list (.ints .i64 u4)])] fun x=>AV.bx x&&Nat.beq (Zad A x) 4] (K (ZcJ mk le er ve fy sl so b27 x28 n29 n44 u6 n46 n47 (A.appA x48 [AV.agg (Row.gen [.int .i64 (u2.cellAt 1).toI, .bool (u2.cellAt 2).toB, .int .i64 (u1.cellAt 4).toI, .list (.ints .i64 u4)])]) n49))))))))) (F (AV.tup [AV.row 0 0,AV.int .i64 0]) (some { e:=59,sz:=4,r:=Row.big (.agg [.int .i64, .bool, .int .i64, .ints .i64]) x48 }))
theorem ZhO{A:Ar}{K:KT}{F:FT}{M:MT}{mk:zI}{le er ve fy sl:Int}{so:zI}{b27:Bool}{x28:List AV}{n29 n44 n45 n46 n47:Int}{x48:List AV}{n49:Int} :Zah A tab Vi 20 K F M (.run 6 (.tf (.run 18 (.tf (.ty (.ty (.ty (.run 1 (.ty (.ty (.ty (.ty (.run 2 (.ty (.run 7 (.hd)))))))))))) (.fy (.fy (.fy (.run 1 (.tf (.ty (.ty (.ty (.run 2 (.ty (.run 7 (.hd))))))) (.fy (.fy (.fy (.run 2 (.tf (.run 7 (.hd)) (.run 24 (.fy (.run 15 (.hd)))))))))))))))) (.run 8 (.fn)))) (ZkX mk le er ve fy sl so b27 x28 n29 n44 n45 n46 n47 x48 n49) (ZhY mk le er ve fy sl so b27 x28 n29 n44 n45 n46 n47 x48 n49)=ZeI A K F mk le er ve fy sl so b27 x28 n29 n44 n45 n46 n47 x48 n49:=by kernel_rfl
def Zjp(A:Ar)(K:KT)(F:FT)(mk:zI)(le er ve fy sl:Int)(so:zI)(b16:Bool)(x17:List AV)(n33 n34:Int)(l50:zI)(n51 n52 n53 n54:Int):Prop:=let u1:=A.nth l50 (A.nat 0);let u0:=A.add n33 u1;rB [A.lt 0 2] (rB [decide (wrB mk so u0=true),A.inR .i64 u0,Zac (Zac (A.le 0 0) (A.lt 0 (A.int 2))) (Nat.blt (A.nat 0) (A.len l50))] (rB [A.le (waI mk so b16 u0) er] (rB [A.inR .i64 u0,Nat.ble (A.lenA x17+A.lenA [AV.agg (Row.gen [.int .i64 2, .int .i64 u0, .bool b16, .int .i64 (waI mk so b16 u0), .int .i64 u1])]) 4294967296,List.all [AV.agg (Row.gen [.int .i64 2, .int .i64 u0, .bool b16, .int .i64 (waI mk so b16 u0), .int .i64 u1])] fun x=>AV.bx x&&Nat.beq (Zad A x) 5,decide (wrB mk so u0=true),A.inR .i64 u0] (rB [!A.not true] (K (Zgo mk le er ve fy sl so b16 (A.appA x17 [AV.agg (Row.gen [.int .i64 2, .int .i64 u0, .bool b16, .int .i64 (waI mk so b16 u0), .int .i64 u1])]) u0 0 n54 n53))))))
theorem Zrt{A:Ar}{K:KT}{F:FT}{M:MT}{mk:zI}{le er ve fy sl:Int}{so:zI}{b16:Bool}{x17:List AV}{n33 n34:Int}{l50:zI}{n51 n52 n53 n54:Int} :Zah A tab Vi 20 K F M (.run 6 (.ty (.run 11 (.ty (.run 50 (.fy (.run 5 (.ty (.run 11 (.hd)))))))))) (Znt mk le er ve fy sl so b16 x17 n33 n34 l50 n51 n52 n53 n54) (ZjS mk le er ve fy sl so b16 x17 n33 n34 l50 n51 n52 n53 n54)=Zjp A K F mk le er ve fy sl so b16 x17 n33 n34 l50 n51 n52 n53 n54:=by kernel_rfl
def Zjz(A:Ar)(K:KT)(F:FT)(mk:zI)(le er ve fy sl:Int)(so:zI)(b22:Bool)(x23:List AV)(n39 n40:Int)(l55:zI)(n56 n57 n58:Int):Prop:=let u2:=A.nth l55 (A.nat 0);let u0:=A.add n39 u2;let u1:=A.appA x23 [AV.agg (Row.gen [.int .i64 1, .int .i64 u0, .bool b22, .int .i64 (waI mk so b22 u0), .int .i64 u2])];let u3:=A.add n58 1;rB [A.lt 0 2] (rB [decide (wrB mk so u0=true),A.inR .i64 u0,Zac (Zac (A.le 0 0) (A.lt 0 (A.int 2))) (Nat.blt (A.nat 0) (A.len l55))] (rB [A.le (waI mk so b22 u0) er] (rB [A.inR .i64 u0,Nat.ble (A.lenA x23+A.lenA [AV.agg (Row.gen [.int .i64 1, .int .i64 u0, .bool b22, .int .i64 (waI mk so b22 u0), .int .i64 u2])]) 4294967296,List.all [AV.agg (Row.gen [.int .i64 1, .int .i64 u0, .bool b22, .int .i64 (waI mk so b22 u0), .int .i64 u2])] fun x=>AV.bx x&&Nat.beq (Zad A x) 5,decide (wrB mk so u0=true),A.inR .i64 u0] (rB [!A.not true] (rB [!A.not true] (rB [A.inR .i64 u3] (bB (A.le ve u3) (K (Zgo mk le er ve fy sl so b22 u1 u0 0 u3 n57)) (K (Znp mk le er ve fy sl so b22 u1 u0 u3 n57)))))))))
theorem Zra{A:Ar}{K:KT}{F:FT}{M:MT}{mk:zI}{le er ve fy sl:Int}{so:zI}{b22:Bool}{x23:List AV}{n39 n40:Int}{l55:zI}{n56 n57 n58:Int} :Zah A tab Vi 20 K F M (.run 6 (.ty (.run 11 (.ty (.run 50 (.fy (.run 6 (.fy (.run 26 (.tf (.run 15 (.hd)) (.run 16 (.hd)))))))))))) (Zny mk le er ve fy sl so b22 x23 n39 n40 l55 n56 n57 n58) (ZjX mk le er ve fy sl so b22 x23 n39 n40 l55 n56 n57 n58)=Zjz A K F mk le er ve fy sl so b22 x23 n39 n40 l55 n56 n57 n58:=by kernel_rfl
end Go.Proofs.YtjhldefnjghcdaaGreat
namespace Go.Proofs.YtjhldefnjghcdaaGreat
def frC(mk:zI)(le sl:Int)(so:zI):Nat:=(((so.length:Int)-mk.length-sl)/le).toNat
@[irreducible] def frG (mk:zI) (le er ve fy sl:Int) (so:zI):Bool:=decide (ruE mk le er ve fy sl=0)&&(decide (sfF so=0)&&(decide ((so.length:Int)=frC mk le sl so*le+mk.length+sl)&&(List.range (frC mk le sl so+1)).all fun i=>decide (wA so (i*le.toNat) mk≤er)))
def frA(mk so:zI)(L a:Nat):AV:=.agg (.gen [.int .i64 ((a:Int)*(L:Int)), .bool false, .int .i64 0, .list (.ints .i64 ((so.drop (a*L+mk.length)).take (L-mk.length)))])
def frS(mk so:zI)(L:Nat):Nat→Nat→List AV
 |0,_=>[]
 |k+1,a=>frA mk so L a::frS mk so L k (a+1)
@[irreducible] def frL (mk:zI) (le sl:Int) (so:zI):List AV:=frS mk so le.toNat (frC mk le sl so) 0
def MG(L:Nat)(x:List AV):Prop:=∀i,i<x.length→∃k w:Int,x.getD i .top=.agg (.gen [.int .i64 k, .int .i64 ((i:Int)*(L:Int)), .bool false, .int .i64 w, .int .i64 0])∧(0<i→k≠0∧k≠4)
theorem ZzS(L:Nat):MG L []:=fun i h=>absurd h (by simp)
theorem ZiZ(xs:List AV)(i:Nat):AV.cellAt (.agg (.gen xs)) i=xs.getD i .top:=rfl
theorem Zoj(k:Go.IntKind)(n:Int):AV.toI (.int k n)=n:=rfl
theorem Zi2(b:Bool):AV.toB (.bool b)=b:=rfl
theorem Zvi(x:List AV)(v:AV):(x++[v]).getD x.length .top=v:=by simp
theorem Zu5(x:List AV)(v:AV)(i:Nat)(h:i<x.length):(x++[v]).getD i .top=x.getD i .top:=by
 rw[List.getD_eq_getElem?_getD,List.getD_eq_getElem?_getD,List.getElem?_append_left h]
theorem Zpi{L:Nat}{x:List AV}(h:MG L x)(k w:Int)(hk:0<x.length→k≠0∧k≠4):MG L (x++[.agg (.gen [.int .i64 k, .int .i64 ((x.length:Int)*(L:Int)), .bool false, .int .i64 w, .int .i64 0])]):=by
 intro i hi
 rw[List.length_append]at hi
 by_cases e:i<x.length
 ·obtain⟨k1,w1,e1,e2⟩:=h i e
  exact⟨k1,w1,by rw[Zu5 _ _ _ e];exact e1,e2⟩
 ·have:i=x.length:=by simp at hi;omega
  subst this
  exact⟨k,w,Zvi _ _,hk⟩
theorem ZBp(mk:zI)(L S N:Nat)(so:zI)(hs:so.length≤600)(hL:mk.length+S<L)(hN:so.length=N*L+mk.length+S)(hb:Zas mk=true)(hL2:L≤200)(a:Nat)(ha:a≤N):wrB mk so ((a*L:Nat):Int)=true:=by
 have l3:a*L≤N*L:=Nat.mul_le_mul_right L ha
 unfold wrB
 rw[hb]
 simp only[Bool.true_and,Bool.and_eq_true,decide_eq_true_eq]
 generalize a*L=p at*
 omega
abbrev frW(l:List AV):Fresh:=⟨59,4, .big (.agg [.int .i64, .bool, .int .i64, .ints .i64]) l⟩
abbrev frR:AV:=.tup [.row 0 0, .int .i64 0]
section
variable {C:Ctx}(hC:C.P=Tryz.prog)(mk:zI)(L S N:Nat)(er ve fy:Int)(so:zI)(hs:so.length≤600)(hL:mk.length+S<L)(hN:so.length=N*L+mk.length+S)
include hC hs hL hN
theorem ZPs(x:List AV)(hx:x.length=N+1)(hm:MG L x)(iv:Bool)(a1 a2 a3 a4:Int):∀(d a:Nat) (y:List AV),a+d=N→y.length=a→Ev C (ZkX mk L er ve fy S so iv x a1 ((N:Int)+1) ((a:Int)+1) a2 a3 y a4) (ZhY mk L er ve fy S so iv x a1 ((N:Int)+1) ((a:Int)+1) a2 a3 y a4) (ZaD 20 frR (some (frW (y++frS mk so L d a)))):=by
 have hNL:N≤600:=by
  have:N≤N*L:=Nat.le_mul_of_pos_right N (by omega)
  omega
 intro d
 induction d with
 |zero=>
  intro a y ha hy
  rw[frS,List.append_nil]
  refine tgo hC ZeZ ZhO ?_
  simp[ZeI,show ¬(a:Int)<(N:Int) by omega]
 |succ d ih=>
  intro a y ha hy
  obtain⟨k0,w0,e0,_⟩:=hm a (by omega)
  obtain⟨k1,w1,e1,h1⟩:=hm (a+1) (by omega)
  obtain⟨h1,h2⟩:=h1 (by omega)
  have i:=ih (a+1) (y++[frA mk so L a]) (by omega) (by simp;omega)
  rw[frS]
  have l1:(a+1)*L=a*L+L:=Nat.succ_mul a L
  have l3:(a+1)*L≤N*L:=Nat.mul_le_mul_right L (by omega)
  rw[show ((a+1:Nat):Int)*(L:Int)=(((a*L+L:Nat):Nat):Int) by rw[←l1];push_cast;rfl]at e1
  have c0:(a:Int)*(L:Int)=((a*L:Nat):Int):=by push_cast;rfl
  refine tgo hC ZeZ ZhO ?_
  simp only[frA,c0]at i e0⊢
  generalize a*L=p at*
  have tk:(so.drop (p+mk.length)).take (L-mk.length)=(so.drop (p+mk.length)).take (p+L-(p+mk.length)):=by congr 1;omega
  rw[tk]at i⊢
  have t1:((a:Int)+1).toNat=a+1:=by omega
  have t2:((p:Int)+(mk.length:Int)).toNat=p+mk.length:=by omega
  have t3:((p:Int)+(L:Int)).toNat=p+L:=by omega
  have t4:¬(a:Int)+1=0:=by omega
  simp[-List.getD_eq_getElem?_getD,List.getD_cons_zero,List.getD_cons_succ,ZeI,e0,e1,h1,h2,t1,t2,t3,t4,Zoj,Zi2,ZiZ,hx,hy,AV.bx,Zad]at i⊢
  exact⟨by omega,by omega,⟨by omega,by omega,by omega,by omega,by omega⟩,⟨by omega,by omega,rfl⟩,i⟩
theorem ZOA(x:List AV)(hx:x.length=N+1)(hm:MG L x)(iv:Bool)(a1 a2 a3 a4:Int):Ev C (Zjj mk L er ve fy S so iv x a1 a2 a3 a4) (ZhH mk L er ve fy S so iv x a1 a2 a3 a4) (ZaD 20 frR (some (frW (frS mk so L N 0)))):=by
 refine tgo hC ZeZ ZtO ?_
 simp[Zmm,hx]
 refine tgo hC ZeZ ZhO ?_
 have i:=ZPs hC mk L S N er ve fy so hs hL hN x hx hm iv a1 a2 a3 a4 N 0 [] (by omega) rfl
 simp[ZeI,hx]at i⊢
 exact i
variable (hb:Zas mk=true)(hm1:1≤mk.length)(hL2:L≤200)(hw:∀i,i≤N→wA so (i*L) mk≤er)
include hb hm1 hL2 hw
theorem ZOt:∀(d a:Nat) (x:List AV),a+d=N→x.length=a+1→MG L x→∀(ms:Int) (a1 a2:Int),Ev C (ZkW mk L er ve fy S so false x ((a*L:Nat):Int) ms a1 a2) (ZgD mk L er ve fy S so false x ((a*L:Nat):Int) ms a1 a2) (ZaD 20 frR (some (frW (frS mk so L N 0)))):=by
 have hNL:N≤600:=by
  have:N≤N*L:=Nat.le_mul_of_pos_right N (by omega)
  omega
 intro d
 induction d with
 |zero=>
  intro a x ha hx hm ms a1 a2
  have:a=N:=by omega
  subst this
  have i:=ZOA hC mk L S a er ve fy so hs hL hN x hx hm false a1 ((a*L:Nat):Int) ms a2
  generalize a*L=p at*
  refine tgo hC ZeZ Zm0 ?_
  simp[Zht,show(so.length:Int)<(p:Int)+(L:Int)+(S:Int)+(mk.length:Int) by omega]at i⊢
  exact⟨by omega,i⟩
 |succ d ih=>
  intro a x ha hx hm ms a1 a2
  have l1:(a+1)*L=a*L+L:=Nat.succ_mul a L
  have l3:(a+1)*L≤N*L:=Nat.mul_le_mul_right L (by omega)
  have hr:=ZBp mk L S N so hs hL hN hb hL2 (a+1) (by omega)
  have hw1:=hw (a+1) (by omega)
  have i:=fun w=>ih (a+1) _ (by omega) (by rw[List.length_append,hx];rfl) (Zpi hm 2 w (fun _=>⟨by decide,by decide⟩)) 0 a1 a2
  rw[show ((x.length:Nat):Int)*(L:Int)=(((a+1)*L:Nat):Int) by rw[hx];push_cast;rfl]at i
  rw[l1]at i hr hw1
  have i:=i (wA so (a*L+L) mk)
  generalize a*L=p at*
  have t1:((p:Int)+(L:Int)).toNat=p+L:=by omega
  refine tgo hC ZeZ Zm0 ?_
  simp[Zht,show ¬(so.length:Int)<(p:Int)+(L:Int)+(S:Int)+(mk.length:Int) by omega]
  refine⟨by omega,by omega,?_⟩
  refine tgo hC ZeZ Zrh ?_
  simp[ZkE,show(0:Int)<(S:Int)+1 by omega]
  refine tgo hC ZeZ Zrt ?_
  simp[-List.getD_eq_getElem?_getD,List.getD_cons_zero,List.getD_cons_succ,Zjp,waI,t1,hw1,hx,AV.bx,Zad]at i hr⊢
  exact⟨⟨hr,by omega,by omega⟩,⟨⟨by omega,by omega⟩,by omega,rfl,hr,by omega,by omega⟩,i⟩
theorem ZQz:∀(d a:Nat) (x:List AV),a+d=N→x.length=a+1→MG L x→∀(c a2:Int),0≤c→c≤1000+(a:Int)→Ev C (ZkB mk L er ve fy S so false x ((a*L:Nat):Int) c a2) (ZhJ mk L er ve fy S so false x ((a*L:Nat):Int) c a2) (ZaD 20 frR (some (frW (frS mk so L N 0)))):=by
 have hNL:N≤600:=by
  have:N≤N*L:=Nat.le_mul_of_pos_right N (by omega)
  omega
 intro d
 induction d with
 |zero=>
  intro a x ha hx hm c a2 hc0 hc
  have:a=N:=by omega
  subst this
  have i:=ZOA hC mk L S a er ve fy so hs hL hN x hx hm false c ((a*L:Nat):Int) 0 a2
  generalize a*L=p at*
  refine tgo hC ZeZ ZmL ?_
  simp[ZhN,show(so.length:Int)<(p:Int)+(L:Int)+(S:Int)+(mk.length:Int) by omega]at i⊢
  exact⟨by omega,i⟩
 |succ d ih=>
  intro a x ha hx hm c a2 hc0 hc
  have l1:(a+1)*L=a*L+L:=Nat.succ_mul a L
  have l3:(a+1)*L≤N*L:=Nat.mul_le_mul_right L (by omega)
  have hr:=ZBp mk L S N so hs hL hN hb hL2 (a+1) (by omega)
  have hw1:=hw (a+1) (by omega)
  have i:=fun w=>ih (a+1) _ (by omega) (by rw[List.length_append,hx];rfl) (Zpi hm 1 w (fun _=>⟨by decide,by decide⟩)) (c+1) a2 (by omega) (by omega)
  have i2:=fun w=>ZOt hC mk L S N er ve fy so hs hL hN hb hm1 hL2 hw d (a+1) _ (by omega) (by rw[List.length_append,hx];rfl) (Zpi hm 1 w (fun _=>⟨by decide,by decide⟩)) 0 (c+1) a2
  rw[show ((x.length:Nat):Int)*(L:Int)=(((a+1)*L:Nat):Int) by rw[hx];push_cast;rfl]at i i2
  rw[l1]at i i2 hr hw1
  have i:=i (wA so (a*L+L) mk)
  have i2:=i2 (wA so (a*L+L) mk)
  generalize a*L=p at*
  have t1:((p:Int)+(L:Int)).toNat=p+L:=by omega
  refine tgo hC ZeZ ZmL ?_
  simp[ZhN,show ¬(so.length:Int)<(p:Int)+(L:Int)+(S:Int)+(mk.length:Int) by omega]
  refine⟨by omega,by omega,?_⟩
  refine tgo hC ZeZ ZqE ?_
  simp[ZjC,show(0:Int)<(S:Int)+1 by omega]
  refine tgo hC ZeZ Zra ?_
  simp[-List.getD_eq_getElem?_getD,List.getD_cons_zero,List.getD_cons_succ,Zjz,waI,t1,hw1,hx,AV.bx,Zad]at i i2 hr⊢
  refine⟨⟨hr,by omega,by omega⟩,⟨⟨by omega,by omega⟩,by omega,rfl,hr,by omega,by omega⟩,by omega,?_⟩
  split
  ·exact i2
  ·exact i
theorem ZP0(a1 a2 a3:Int)(b:Bool):Ev C (Zkl mk L er ve fy S so 0 a1 a2 b [] a3) (Zhv mk L er ve fy S so 0 a1 a2 b [] a3) (ZaD 20 frR (some (frW (frS mk so L N 0)))):=by
 have hw0:=hw 0 (by omega)
 have hr:=ZBp mk L S N so hs hL hN hb hL2 0 (by omega)
 have i:=fun w a1 a2=>ZOt hC mk L S N er ve fy so hs hL hN hb hm1 hL2 hw N 0 _ (by omega) rfl (Zpi (ZzS L) 0 w (fun h=>absurd h (by simp))) 0 a1 a2
 have i2:=fun w a2=>ZQz hC mk L S N er ve fy so hs hL hN hb hm1 hL2 hw N 0 _ (by omega) rfl (Zpi (ZzS L) 0 w (fun h=>absurd h (by simp))) 1 a2 (by omega) (by omega)
 have i:=i (wA so 0 mk)
 have i2:=i2 (wA so 0 mk)
 rw[Nat.zero_mul]at hw0 hr
 refine tgo hC ZeZ Zt9 ?_
 simp[Zm8]
 refine tgo hC ZeZ ZtX ?_
 simp[-List.getD_eq_getElem?_getD,List.getD_cons_zero,List.getD_cons_succ,Zmu,show(mk.length:Int)≤(so.length:Int) by omega,show ¬er<wA so 0 mk by omega,hw0,AV.bx,Zad]at i i2 hr⊢
 refine⟨by omega,hr,rfl,?_⟩
 split
 ·exact i _ _
 ·exact i2 _
end
theorem Zri(mk:zI)(le er ve fy sl:Int)(so:zI)(h:frG mk le er ve fy sl so=true):ZaK Tryz.prog 20 [.agg (.gen [.list (.ints .i64 mk), .int .i64 le, .int .i64 er, .int .i64 ve, .int .i64 fy, .int .i64 sl]), .list (.ints .i64 so)] (.tup [.row 0 0, .int .i64 0]) (some ⟨59,4, .big (.agg [.int .i64, .bool, .int .i64, .ints .i64]) (frL mk le sl so)⟩):=by
 unfold frG at h
 simp only[Bool.and_eq_true,decide_eq_true_eq,List.all_eq_true,List.mem_range]at h
 obtain⟨h1,h2,h3,h4⟩:=h
 obtain⟨r0,r1,_,_,_,r5,_,r7⟩:=Zqk h1
 obtain⟨k1,k2,k3⟩:=ZiD r0
 obtain⟨s1,_⟩:=ZG2 h2
 have r1:=of_decide_eq_true r1
 have r5:=of_decide_eq_true r5
 unfold frL
 generalize frC mk le sl so=N at*
 obtain⟨L,rfl⟩:=Int.eq_ofNat_of_zero_le (show 0≤le by omega)
 obtain⟨S,rfl⟩:=Int.eq_ofNat_of_zero_le (show 0≤sl by omega)
 refine start (ZAK mk L er ve fy S so) fun C hC=>tgo hC ZeZ ZMd ?_
 have h3:so.length=N*L+mk.length+S:=by
  have:(((N*L:Nat):Nat):Int)=(N:Int)*(L:Int):=by push_cast;rfl
  rw[←this]at h3
  omega
 have i:=ZP0 hC mk L S N er ve fy so s1 (by omega) h3 (Zrl k3) k1 (by omega) (fun i hi=>h4 i (by omega)) 0 0 0 false
 simp[ZHO,h1,h2,Zaj,AV.bx,Zad,show so.length≤1000000 by omega]at i⊢
 exact i
def k20s:Ctr:=⟨20,0,fun _ a=>match a with |[.agg (.gen [.list (.ints .i64 mk), .int .i64 le, .int .i64 er, .int .i64 ve, .int .i64 fy, .int .i64 sl]), .list (.ints .i64 so)]=>some (decide (frG mk le er ve fy sl so=true), .tup [.row 0 0, .int .i64 0],some ⟨59,4, .big (.agg [.int .i64, .bool, .int .i64, .ints .i64]) (frL mk le sl so)⟩) |_=>none⟩
theorem ZDY:k20s.OK Tryz.prog:=fun pa args r fr h=>by
 simp only[k20s]at h
 split at h
 ·simp only[Option.some.injEq,Prod.mk.injEq,decide_eq_true_eq]at h
  obtain⟨h0,rfl,rfl⟩:=h
  exact Zri _ _ _ _ _ _ _ h0
 ·cases h
def Vj:List Ctr:=[k20s]++Vi
theorem ZMe:Zar Tryz.prog Vj:=⟨ZDY,ZeZ⟩
end Go.Proofs.YtjhldefnjghcdaaGreat
namespace Go.Proofs.YtjhldefnjghcdaaGreat
@[irreducible] def fnM (mk:zI) (er:Int) (so:zI):List AV:=fnL mk er so (so.length+1-mk.length) 0
theorem ZDv(mk:zI)(le er ve fy sl:Int)(so:zI)(h:ruE mk le er ve fy sl=0)(h2:sfF so=0):ZaK Tryz.prog 18 [.agg (.gen [.list (.ints .i64 mk), .int .i64 le, .int .i64 er, .int .i64 ve, .int .i64 fy, .int .i64 sl]), .list (.ints .i64 so)] (.tup [.list (.big (.agg [.int .i64, .int .i64, .bool, .int .i64, .int .i64]) (fnM mk er so)), .int .i64 0]) Zk4:=by
 unfold fnM
 exact Zqd mk le er ve fy sl so h h2
def k18m:Ctr:=⟨18,0,fun _ a=>match a with |[.agg (.gen [.list (.ints .i64 mk), .int .i64 le, .int .i64 er, .int .i64 ve, .int .i64 fy, .int .i64 sl]), .list (.ints .i64 so)]=>some (decide (ruE mk le er ve fy sl=0∧sfF so=0), .tup [.list (.big (.agg [.int .i64, .int .i64, .bool, .int .i64, .int .i64]) (fnM mk er so)), .int .i64 0],Zk4) |_=>none⟩
theorem ZC4:k18m.OK Tryz.prog:=fun pa args r fr h=>by
 simp only[k18m]at h
 split at h
 ·simp only[Option.some.injEq,Prod.mk.injEq,decide_eq_true_eq]at h
  obtain⟨h0,rfl,rfl⟩:=h
  exact ZDv _ _ _ _ _ _ _ h0.1 h0.2
 ·cases h
def Vk:List Ctr:=[k18m]++Vj
theorem ZM5:Zar Tryz.prog Vk:=⟨ZC4,ZMe⟩
end Go.Proofs.YtjhldefnjghcdaaGreat
namespace Go.Proofs.YtjhldefnjghcdaaGreat
def Vl:List Ctr:=[k14v]++Vk
theorem ZnS:Zar Tryz.prog Vl:=⟨Zwz,ZM5⟩
end Go.Proofs.YtjhldefnjghcdaaGreat
