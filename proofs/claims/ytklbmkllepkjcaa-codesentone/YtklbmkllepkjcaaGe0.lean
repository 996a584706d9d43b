/- Paths of functions, printed by the explorer (Gx). No condition. -/
import Derived.Test.YtklbmkllepkjcaaGc
import Derived.KernelRfl
namespace Go.Proofs.Ytklbmkllepkjcaa
set_option maxRecDepth 100000
set_option linter.unusedVariables false
def ZCV(w:List Int)(h:Int):AFrame:={ fn:=75,N:=20,env:=[(0,AV.agg (.ints .i64 w)),(1,AV.int .i64 h)],todo:=[.code a75.code],defs:=[],rnd:=none,ret:=false,res:=[ARes.tmp 4] }
def ZG2(w:List Int)(h:Int):List AFrame:=[(ZCV w h)]
theorem ZwZ(w:List Int)(h:Int):Zay tab 75 [AV.agg (.ints .i64 w),AV.int .i64 h]=some (ZCV w h):=rfl
def Zhw(w:List Int)(h:Int)(A:Ar)(n0:Int)(l1:List Int):List AFrame:=[{ fn:=75,N:=20,env:=[(1,AV.int .i64 h),(2,AV.ptr 75003 0 0 0),(5,AV.row 75019 0),(6,AV.int .i64 n0)],todo:=.code (ACode.gh [] Zwy)::ZAf,defs:=[],rnd:=none,ret:=false,res:=[ARes.tmp 4] }]
def ZfN(w:List Int)(h:Int)(A:Ar)(n0:Int)(l1:List Int):Zaa:=[(75003,{ base:=0,blks:=[Blk.row 107 (A.len w) (Row.gen [.agg (.ints .i64 w)])] }),(75019,{ base:=0,blks:=[Blk.row 3 1 (.ints .i64 l1)] })]
abbrev ZiY(w:List Int)(h:Int)(A:Ar)(n0:Int)(l1:List Int):List AFrame×Zaa:=(Zhw w h A n0 l1,ZfN w h A n0 l1)
def ZBM(A:Ar)(K:KT)(F:FT)(w:List Int)(h:Int):Prop:=rB [Nat.blt 0 (A.len w)] (K (ZiY (w) (h) (A) (1) ([])))
theorem ZDu{A:Ar}{K:KT}{F:FT}{M:MT}{w:List Int}{h:Int} :Zao A tab Kc 75 K F M (.run 18 (.hd)) (ZG2 w h) []=ZBM A K F w h:=by kernel_rfl
def Zfz(A:Ar)(K:KT)(F:FT)(w:List Int)(h n0:Int)(l1:List Int):Prop:=rB [A.inR .i64 (A.mul 2 h)] (bB (A.le n0 (A.mul 2 h)) (rB [A.inR .i64 (A.add n0 1),Nat.ble (A.len l1+A.len [syI (A.sub3 w 0 15) (Int.toNat n0)]) 4294967296,List.all [AV.int .i64 (syI (A.sub3 w 0 15) (Int.toNat n0))] fun x=>AV.bx x&&Nat.beq (Zaf A x) 1,decide (okw (A.sub3 w 0 15)=true∧0≤n0∧n0≤1000),Nat.ble 15 (A.len w)] (K (ZiY (w) (h) (A) (A.add n0 1) (A.app l1 [syI (A.sub3 w 0 15) (Int.toNat n0)])))) (F (AV.row 0 0) (some { e:=3,sz:=1,r:=.ints .i64 l1 })))
theorem Zi2{A:Ar}{K:KT}{F:FT}{M:MT}{w:List Int}{h n0:Int}{l1:List Int} :Zao A tab Kc 75 K F M (.run 9 (.tf (.run 20 (.hd)) (.run 7 (.fn)))) (Zhw w h A n0 l1) (ZfN w h A n0 l1)=Zfz A K F w h n0 l1:=by kernel_rfl
def ZzB(h:Int)(w:List Int):AFrame:={ fn:=19,N:=21,env:=[(0,AV.int .i64 h),(1,AV.list (.ints .i64 w))],todo:=[.code a19.code],defs:=[],rnd:=none,ret:=false,res:=[ARes.tmp 4,ARes.tmp 5] }
def ZHU(h:Int)(w:List Int):List AFrame:=[(ZzB h w)]
theorem ZxQ(h:Int)(w:List Int):Zay tab 19 [AV.int .i64 h,AV.list (.ints .i64 w)]=some (ZzB h w):=rfl
def ZhQ(h:Int)(w:List Int)(A:Ar)(n0 n1:Int)(b2:Bool)(l3 l4 l5:List Int)(n6:Int)(l7:List Int):List AFrame:=[{ fn:=75,N:=20,env:=[(1,AV.int .i64 h),(2,AV.ptr 75003 0 0 0),(5,AV.row 75019 0),(6,AV.int .i64 n6)],todo:=.code (ACode.gh [] Zwy)::ZAf,defs:=[],rnd:=none,ret:=false,res:=[ARes.tmp 4] },{ fn:=19,N:=21,env:=[(0,AV.int .i64 h),(1,AV.list (.ints .i64 w)),(6,AV.int .i64 n0),(13,AV.int .i64 n1),(14,AV.bool b2),(16,AV.list (.ints .i64 w)),(17,AV.eptr (AV.agg (.ints .i64 l3)) 0),(18,AV.agg (.ints .i64 l4)),(19,AV.int .i64 h)],todo:=[AItem.inReg [oN 20 (OpK.ncall true 19021 75 [Opd.t 18,Opd.t 19]),mV 4 20,oN 5 (OpK.mov (cI 0))], .code ACode.ret],defs:=[],rnd:=none,ret:=false,res:=[ARes.tmp 4,ARes.tmp 5] }]
def Zgu(h:Int)(w:List Int)(A:Ar)(n0 n1:Int)(b2:Bool)(l3 l4 l5:List Int)(n6:Int)(l7:List Int):Zaa:=[(75003,{ base:=0,blks:=[Blk.row 107 (A.len (A.sub3 (A.sub3 w 0 15) 0 15)) (Row.gen [.agg (.ints .i64 l5)])] }),(75019,{ base:=0,blks:=[Blk.row 3 1 (.ints .i64 l7)] })]
abbrev Zi7(h:Int)(w:List Int)(A:Ar)(n0 n1:Int)(b2:Bool)(l3 l4 l5:List Int)(n6:Int)(l7:List Int):List AFrame×Zaa:=(ZhQ h w A n0 n1 b2 l3 l4 l5 n6 l7,Zgu h w A n0 n1 b2 l3 l4 l5 n6 l7)
def Zx6(A:Ar)(K:KT)(F:FT)(h:Int)(w:List Int):Prop:=rB [decide (List.length [hfE h,elE w 15]≤1000000),List.all [AV.int .i64 (hfE h),AV.int .i64 (elE w 15)] fun x=>AV.bx x&&Nat.beq (Zaf A x) 1,decide (List.length w≤1000000)] (bB (A.not (A.eq (Zar [hfE h,elE w 15]) 0)) (F (AV.tup [AV.nils,AV.int .i64 (Zar [hfE h,elE w 15])]) (none)) (rB [Nat.blt 0 (A.len (A.sub3 (A.sub3 w 0 15) 0 15)),Nat.ble 15 (A.len (A.sub3 w 0 15)),Zae (Nat.ble 15 (A.len w)) true] (K (Zi7 (h) (w) (A) (Zar [hfE h,elE w 15]) (Zar [hfE h,elE w 15]) (A.not (A.eq (Zar [hfE h,elE w 15]) 0)) (A.sub3 w 0 15) (A.sub3 (A.sub3 w 0 15) 0 15) (A.sub3 (A.sub3 w 0 15) 0 15) (1) ([])))))
theorem ZDO{A:Ar}{K:KT}{F:FT}{M:MT}{h:Int}{w:List Int} :Zao A tab Kc 19 K F M (.run 22 (.tf (.run 7 (.fn)) (.run 26 (.hd)))) (ZHU h w) []=Zx6 A K F h w:=by kernel_rfl
def Zgb(A:Ar)(K:KT)(F:FT)(h:Int)(w:List Int)(n0 n1:Int)(b2:Bool)(l3 l4 l5:List Int)(n6:Int)(l7:List Int):Prop:=rB [A.inR .i64 (A.mul 2 h)] (bB (A.le n6 (A.mul 2 h)) (rB [A.inR .i64 (A.add n6 1),Nat.ble (A.len l7+A.len [syI (A.sub3 l5 0 15) (Int.toNat n6)]) 4294967296,List.all [AV.int .i64 (syI (A.sub3 l5 0 15) (Int.toNat n6))] fun x=>AV.bx x&&Nat.beq (Zaf A x) 1,decide (okw (A.sub3 l5 0 15)=true∧0≤n6∧n6≤1000),Nat.ble 15 (A.len l5)] (K (Zi7 (h) (w) (A) (n0) (n1) (b2) (l3) (l4) (l5) (A.add n6 1) (A.app l7 [syI (A.sub3 l5 0 15) (Int.toNat n6)])))) (F (AV.tup [AV.row 0 0,AV.int .i64 0]) (some { e:=3,sz:=1,r:=.ints .i64 l7 })))
theorem ZjV{A:Ar}{K:KT}{F:FT}{M:MT}{h:Int}{w:List Int}{n0 n1:Int}{b2:Bool}{l3 l4 l5:List Int}{n6:Int}{l7:List Int} :Zao A tab Kc 19 K F M (.run 9 (.tf (.run 20 (.hd)) (.run 12 (.fn)))) (ZhQ h w A n0 n1 b2 l3 l4 l5 n6 l7) (Zgu h w A n0 n1 b2 l3 l4 l5 n6 l7)=Zgb A K F h w n0 n1 b2 l3 l4 l5 n6 l7:=by kernel_rfl
end Go.Proofs.Ytklbmkllepkjcaa
/- Contracts as a list. No condition. -/
namespace Go.Proofs.Ytklbmkllepkjcaa
theorem Zby{w:List Int}(h:w.length=15):std.sub3 w 0 15=w:=by show(w.drop 0).take 15=w;rw[List.drop_zero,List.take_of_length_le (by omega)]
section
variable {C:Ctx}(hC:C.P=Try.prog){w:List Int}(hw:okw w=true)
include hC hw
theorem S75(h:Int)(hh:1≤h∧h≤3):∀(k j:Nat),(j:Int)+k=2*h→Ev C (Zhw w h std ((j+1:Nat):Int) (syL w j)) (ZfN w h std ((j+1:Nat):Int) (syL w j)) (ZaZ 75 (.row 0 0) (some ⟨3,1, .ints .i64 (syL w (2*h.toNat))⟩)):=by
 obtain⟨w1,w2⟩:=okw_iff.1 hw
 intro k
 induction k with
 |zero=>
  intro j hj
  refine tgo hC Znc Zi2 ?_
  rw[show 2*h.toNat=j by omega]
  simp[Zfz,show ¬(j:Int)+1≤2*h by omega]
  omega
 |succ k ih=>
  intro j hj
  refine tgo hC Znc Zi2 ?_
  have i:=ih (j+1) (by omega)
  have e:=Zby w1
  have l:=ZeA w j
  rw[Zoa]at i
  simp only[Zfz,e]
  simp[hw,w1,l,show(j:Int)+1≤2*h by omega,AV.bx,Zaf]at i⊢
  exact⟨by omega,by omega,i⟩
theorem S19(h:Int)(hh:1≤h∧h≤3)(n0 n1:Int)(b2:Bool)(l3 l4:List Int):∀(k j:Nat),(j:Int)+k=2*h→Ev C (ZhQ h w std n0 n1 b2 l3 l4 w ((j+1:Nat):Int) (syL w j)) (Zgu h w std n0 n1 b2 l3 l4 w ((j+1:Nat):Int) (syL w j)) (Zy6 19 (.tup [.list (.ints .i64 (syL w (2*h.toNat))), .int .i64 0])):=by
 obtain⟨w1,w2⟩:=okw_iff.1 hw
 intro k
 induction k with
 |zero=>
  intro j hj
  refine ZEn hC Znc ZjV ?_
  rw[show 2*h.toNat=j by omega]
  simp[Zgb,show ¬(j:Int)+1≤2*h by omega]
  exact⟨by omega,_, .same _, .tup ⟨.row _ rfl rfl rfl, .same _ rfl rfl,trivial⟩,rfl⟩
 |succ k ih=>
  intro j hj
  refine ZEn hC Znc ZjV ?_
  have i:=ih (j+1) (by omega)
  have e:=Zby w1
  have l:=ZeA w j
  rw[Zoa]at i
  simp only[Zgb,e]
  simp[hw,w1,l,show(j:Int)+1≤2*h by omega,AV.bx,Zaf]at i⊢
  exact⟨by omega,by omega,i⟩
end
theorem ZsW(w:List Int)(h:Int)(hw:okw w=true)(hh:hfB h=true):Zah Try.prog 75 [.agg (.ints .i64 w), .int .i64 h] (.row 0 0) (some ⟨3,1, .ints .i64 (syL w (2*h.toNat))⟩):=by
 obtain⟨w1,w2⟩:=okw_iff.1 hw
 have hh:=of_decide_eq_true hh
 refine start (ZwZ w h) fun C hC=>tgo hC Znc ZDu ?_
 have i:=S75 hC hw h hh (2*h.toNat) 0 (by omega)
 simp[ZBM,syL,w1]at i⊢
 exact i
def Zpp(h:Int)(w:List Int):Int:=Zar [hfE h,elE w 15]
def ZvF(h:Int)(w:List Int):List Int:=if Zpp h w=0 then syL w (2*h.toNat)else []
theorem Zva{h:Int}(e:hfE h=0):1≤h∧h≤3:=by
 unfold hfE Zaj at e
 split at e
 ·rename_i h1;exact of_decide_eq_true h1
 ·cases e
theorem Zwc{l:List Int}{n:Int}(e:elE l n=0):(l.length:Int)=n∧Zbu l 0 15=0:=by
 obtain⟨a,b⟩:=Ze3 e
 obtain⟨b,_⟩:=Ze3 b
 refine⟨?_,b⟩
 by_cases h:(l.length:Int)=n
 ·exact h
 ·simp[Zaj,h]at a
theorem Zyz{h:Int}{w:List Int}(e:Zpp h w=0):(1≤h∧h≤3)∧okw w=true:=by
 obtain⟨a,b⟩:=Ze3 e
 obtain⟨b,_⟩:=Ze3 b
 obtain⟨c,d⟩:=Zwc b
 exact⟨Zva a,okw_iff.2 ⟨by omega,d⟩⟩
theorem Zt5(h:Int)(w:List Int)(hl:w.length≤1000000):Zah Try.prog 19 [.int .i64 h, .list (.ints .i64 w)] (.tup [.list (.ints .i64 (ZvF h w)), .int .i64 (Zpp h w)]) Zue:=by
 refine ZA1 (ZxQ h w) fun C hC=>ZEn hC Znc ZDO ?_
 have e1:Zar [hfE h,elE w 15]=Zpp h w:=rfl
 by_cases e:Zpp h w=0
 ·obtain⟨hh,hw⟩:=Zyz e
  obtain⟨w1,w2⟩:=okw_iff.1 hw
  have e2:=Zby w1
  have i:=S19 hC hw h hh (Zpp h w) (Zpp h w) (!decide (Zpp h w=0)) w w (2*h.toNat) 0 (by omega)
  simp only[Zx6,e1,e2]
  simp[hl,e,w1,ZvF,syL,AV.bx,Zaf]at i⊢
  exact i
 ·simp[Zx6,e1,hl,e,ZvF,AV.bx,Zaf]
  exact⟨_, .same _, .tup ⟨.nil _ rfl, .same _ rfl rfl,trivial⟩,rfl⟩
def isW(h:Int)(w:List Int):Bool:=(syL w (2*h.toNat)).all fun x=>decide (x=0)
section
variable {C:Ctx}(hC:C.P=Try.prog)
include hC
end
def erP:Int→List Int→Int
 |_,[]=>0
 |p,x::l=>if Zaq x 0 14=true then(if p<x then erP x l else 9)else 6
def erE(h:Int)(e:List Int):Int:=if 2*h<(e.length:Int)then 8 else erP (-1) e
section
variable {C:Ctx}(hC:C.P=Try.prog)
include hC
end
def k75:Ctr:=⟨75,0,fun _ a=>match a with |[.agg (.ints .i64 w), .int .i64 h]=>some (decide (okw w=true∧hfB h=true), .row 0 0,some ⟨3,1, .ints .i64 (syL w (2*h.toNat))⟩) |_=>none⟩
theorem ZC5:k75.OK Try.prog:=fun pa args r fr h=>by
 simp only[k75]at h
 split at h
 ·simp only[Option.some.injEq,Prod.mk.injEq,decide_eq_true_eq]at h
  obtain⟨h0,rfl,rfl⟩:=h
  exact ZsW _ _ h0.1 h0.2
 ·cases h
def k19:Ctr:=⟨19,0,fun _ a=>match a with |[.int .i64 h, .list (.ints .i64 w)]=>some (decide (w.length≤1000000), .tup [.list (.ints .i64 (ZvF h w)), .int .i64 (Zpp h w)],Zue) |_=>none⟩
theorem ZCo:k19.OK Try.prog:=fun pa args r fr h=>by
 simp only[k19]at h
 split at h
 ·simp only[Option.some.injEq,Prod.mk.injEq,decide_eq_true_eq]at h
  obtain⟨h0,rfl,rfl⟩:=h
  exact Zt5 _ _ h0
 ·cases h
def Kd:List Ctr:=[k75,k19]++Kc
theorem ZEs:Zax Try.prog Kd:=⟨ZC5,⟨ZCo,Znc⟩⟩
end Go.Proofs.Ytklbmkllepkjcaa
/- Copies are rows of their own again. No condition. -/
namespace Go.Proofs.Ytklbmkllepkjcaa
def Ke:List Ctr:=[k14]++Kd
theorem ZaH:Zax Try.prog Ke:=⟨Zv1,ZEs⟩
end Go.Proofs.Ytklbmkllepkjcaa
