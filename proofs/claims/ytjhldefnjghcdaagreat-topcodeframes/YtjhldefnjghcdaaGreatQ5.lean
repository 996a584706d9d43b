/- Paths of functions, printed by the explorer (Gx). No condition. -/
import Derived.Test.YtjhldefnjghcdaaGreatMa
import Derived.KernelRfl
namespace Go.Proofs.YtjhldefnjghcdaaGreat
set_option maxRecDepth 100000
set_option linter.unusedVariables false
def ZE8(l:zI):AFrame:=vF 39 5 [vL 0 l] [.code a39.code] [.tmp 2]
def ZPE(l:zI):List AFrame:=[(ZE8 l)]
theorem ZD6(l:zI):Zak tab 39 [AV.list (.ints .i64 l)]=some (ZE8 l):=rfl
def v11Q:List AItem:=[.inReg [oN 16 (.ncall true 0 72 [.t 14,.t 15]),oN 17 (.not (.t 16)),oN 18 (.ncall true 0 62 [.t 17,cI 2]),oN 19 (.bslice 63020 40 1 [.t 13,.t 18]),oN 20 (.ncall true 0 38 [.t 19]),mV 6 20], .code (.gh [.keep [6]] ACode.ret)]
def ZjV(l:zI)(n0 n1:Int)(b2:Bool)(n3 n4:Int):List AFrame:=[vF 90 19 [vL 0 l,(1,AV.fn 81 [AV.ptr 63006 0 0 0]),vI 7 n0,vI 8 n4] (vC Zy8 ZEw) [.tmp 4],vF 72 9 [vL 0 l,(1,AV.fn 81 [AV.ptr 63006 0 0 0]),vB 4 false,vL 5 l,(6,AV.fn 81 [AV.ptr 63006 0 0 0])] v12Q [.tmp 4],vF 63 21 [vL 0 l,vI 1 600,(2,AV.fn 64 []),vP 5 63006,vI 6 0,(7,AV.fn 81 [AV.ptr 63006 0 0 0]),(8,AV.fn 81 [AV.ptr 63006 0 0 0]),vL 9 l,vI 10 n1,vI 11 600,vB 12 b2,vI 13 n3,vL 14 l,(15,AV.fn 81 [AV.ptr 63006 0 0 0])] v11Q [.tmp 6],vF 39 5 [vL 0 l,vI 2 0,vL 3 l] [.inReg [oN 4 (.ncall true 0 63 [.t 3,cI 600,.c (AV.fn 64 [])]),mV 2 4], .code ACode.ret] [.tmp 2]]
def Zg4(l:zI)(n0 n1:Int)(b2:Bool)(n3 n4:Int):Zaa:=[(63006,{ base:=0,blks:=[Blk.row 69 1 (Row.gen [AV.fn 64 []])] })]
abbrev Zmb(l:zI)(n0 n1:Int)(b2:Bool)(n3 n4:Int):List AFrame×Zaa:=(ZjV l n0 n1 b2 n3 n4,Zg4 l n0 n1 b2 n3 n4)
def ZIQ(A:Ar)(K:KT)(F:FT)(l:zI):Prop:=K (Zmb l (A.int (A.len l)) (A.int (A.len l)) (A.le (A.int (A.len l)) 600) (Zae (A.le (A.int (A.len l)) 600) 8) 0)
theorem ZLu{A:Ar}{K:KT}{F:FT}{M:MT}{l:zI} :Zah A tab Va 39 K F M (.run 51 (.hd)) (ZPE l) []=ZIQ A K F l:=by kernel_rfl
def ZeU(A:Ar)(K:KT)(F:FT)(l:zI)(n0 n1:Int)(b2:Bool)(n3 n4:Int):Prop:=bB (A.lt n4 n0) (rB [A.inR .i64 (A.neg 7),Zac (Zac (A.le 0 n4) (Nat.blt (A.nat n4) (A.len l))) true] (bB (A.not (Zaf (A.nth l (A.nat n4)) (A.neg 7) 7)) (rB [decide (List.length [n3,Zae (A.not (A.le 0 n4)) 2]≤1000000),List.all [AV.int .i64 n3,AV.int .i64 (Zae (A.not (A.le 0 n4)) 2)] fun x=>AV.bx x&&Nat.beq (Zad A x) 1] (F (AV.int .i64 (Zaj [n3,Zae (A.not (A.le 0 n4)) 2])) none)) (rB [A.inR .i64 (A.add n4 1)] (K (Zmb l n0 n1 b2 n3 (A.add n4 1)))))) (rB [decide (List.length [n3,Zae (A.not (A.le 0 (-1))) 2]≤1000000),List.all [AV.int .i64 n3,AV.int .i64 (Zae (A.not (A.le 0 (-1))) 2)] fun x=>AV.bx x&&Nat.beq (Zad A x) 1] (F (AV.int .i64 (Zaj [n3,Zae (A.not (A.le 0 (-1))) 2])) none))
theorem Zl3{A:Ar}{K:KT}{F:FT}{M:MT}{l:zI}{n0 n1:Int}{b2:Bool}{n3 n4:Int} :Zah A tab Va 39 K F M (.run 6 (.tf (.run 58 (.tf (.run 24 (.fn)) (.run 8 (.hd)))) (.run 24 (.fn)))) (ZjV l n0 n1 b2 n3 n4) (Zg4 l n0 n1 b2 n3 n4)=ZeU A K F l n0 n1 b2 n3 n4:=by kernel_rfl
def ZFF(l:zI):AFrame:=vF 85 11 [vL 0 l] [.code a85.code] [.tmp 2]
def ZP3(l:zI):List AFrame:=[(ZFF l)]
theorem ZBc(l:zI):Zak tab 85 [AV.list (.ints .i64 l)]=some (ZFF l):=rfl
def Zjb(l:zI)(n0 n1:Int)(b2:Bool)(n3:Int)(b4:Bool)(n5 n6 n7:Int):List AFrame:=[vF 90 19 [vL 0 l,(1,AV.fn 81 [AV.ptr 63006 0 0 0]),vI 7 n0,vI 8 n7] (vC Zy8 ZEw) [.tmp 4],vF 72 9 [vL 0 l,(1,AV.fn 81 [AV.ptr 63006 0 0 0]),vB 4 false,vL 5 l,(6,AV.fn 81 [AV.ptr 63006 0 0 0])] v12Q [.tmp 4],vF 63 21 [vL 0 l,vI 1 32,(2,AV.fn 101 []),vP 5 63006,vI 6 0,(7,AV.fn 81 [AV.ptr 63006 0 0 0]),(8,AV.fn 81 [AV.ptr 63006 0 0 0]),vL 9 l,vI 10 n1,vI 11 32,vB 12 b2,vI 13 n5,vL 14 l,(15,AV.fn 81 [AV.ptr 63006 0 0 0])] v11Q [.tmp 6],vF 85 11 [vL 0 l,vI 2 0,vL 3 l,vI 4 n3,vB 5 b4,vI 6 n6,vL 7 l] [.inReg [oN 8 (.ncall true 0 63 [.t 7,cI 32,.c (AV.fn 101 [])]),oN 9 (.bslice 85010 40 1 [.t 6,.t 8]),oN 10 (.ncall true 0 38 [.t 9]),mV 2 10], .code (.gh [.keep [2]] ACode.ret)] [.tmp 2]]
def Zgy(l:zI)(n0 n1:Int)(b2:Bool)(n3:Int)(b4:Bool)(n5 n6 n7:Int):Zaa:=[(63006,{ base:=0,blks:=[Blk.row 69 1 (Row.gen [AV.fn 101 []])] })]
abbrev Zm6(l:zI)(n0 n1:Int)(b2:Bool)(n3:Int)(b4:Bool)(n5 n6 n7:Int):List AFrame×Zaa:=(Zjb l n0 n1 b2 n3 b4 n5 n6 n7,Zgy l n0 n1 b2 n3 b4 n5 n6 n7)
def ZKP(A:Ar)(K:KT)(F:FT)(l:zI):Prop:=K (Zm6 l (A.int (A.len l)) (A.int (A.len l)) (A.le (A.int (A.len l)) 32) (A.int (A.len l)) (A.lt 0 (A.int (A.len l))) (Zae (A.le (A.int (A.len l)) 32) 8) (Zae (A.lt 0 (A.int (A.len l))) 10) 0)
theorem ZNi{A:Ar}{K:KT}{F:FT}{M:MT}{l:zI} :Zah A tab Va 85 K F M (.run 55 (.hd)) (ZP3 l) []=ZKP A K F l:=by kernel_rfl
def Zey(A:Ar)(K:KT)(F:FT)(l:zI)(n0 n1:Int)(b2:Bool)(n3:Int)(b4:Bool)(n5 n6 n7:Int):Prop:=bB (A.lt n7 n0) (rB [Zac (Zac (A.le 0 n7) (Nat.blt (A.nat n7) (A.len l))) true] (bB (A.not (Zaf (A.nth l (A.nat n7)) 0 1)) (rB [decide (List.length [n6,Zaj [n5,Zae (A.not (A.le 0 n7)) 2]]≤1000000),List.all [AV.int .i64 n6,AV.int .i64 (Zaj [n5,Zae (A.not (A.le 0 n7)) 2])] fun x=>AV.bx x&&Nat.beq (Zad A x) 1,decide (List.length [n5,Zae (A.not (A.le 0 n7)) 2]≤1000000),List.all [AV.int .i64 n5,AV.int .i64 (Zae (A.not (A.le 0 n7)) 2)] fun x=>AV.bx x&&Nat.beq (Zad A x) 1] (F (AV.int .i64 (Zaj [n6,Zaj [n5,Zae (A.not (A.le 0 n7)) 2]])) none)) (rB [A.inR .i64 (A.add n7 1)] (K (Zm6 l n0 n1 b2 n3 b4 n5 n6 (A.add n7 1)))))) (rB [decide (List.length [n6,Zaj [n5,Zae (A.not (A.le 0 (-1))) 2]]≤1000000),List.all [AV.int .i64 n6,AV.int .i64 (Zaj [n5,Zae (A.not (A.le 0 (-1))) 2])] fun x=>AV.bx x&&Nat.beq (Zad A x) 1,decide (List.length [n5,Zae (A.not (A.le 0 (-1))) 2]≤1000000),List.all [AV.int .i64 n5,AV.int .i64 (Zae (A.not (A.le 0 (-1))) 2)] fun x=>AV.bx x&&Nat.beq (Zad A x) 1] (F (AV.int .i64 (Zaj [n6,Zaj [n5,Zae (A.not (A.le 0 (-1))) 2]])) none))
theorem ZnD{A:Ar}{K:KT}{F:FT}{M:MT}{l:zI}{n0 n1:Int}{b2:Bool}{n3:Int}{b4:Bool}{n5 n6 n7:Int} :Zah A tab Va 85 K F M (.run 6 (.tf (.run 43 (.tf (.run 27 (.fn)) (.run 8 (.hd)))) (.run 27 (.fn)))) (Zjb l n0 n1 b2 n3 b4 n5 n6 n7) (Zgy l n0 n1 b2 n3 b4 n5 n6 n7)=Zey A K F l n0 n1 b2 n3 b4 n5 n6 n7:=by kernel_rfl
def ZPm(mk:zI)(le er ve fy sl:Int):AFrame:=vF 6 55 [(0,AV.agg (Row.gen [.list (.ints .i64 mk), .int .i64 le, .int .i64 er, .int .i64 ve, .int .i64 fy, .int .i64 sl]))] [.code a6.code] [.tmp 2]
def f6e(mk:zI)(le er ve fy sl:Int):List AFrame:=[(ZPm mk le er ve fy sl)]
theorem ZGA(mk:zI)(le er ve fy sl:Int):Zak tab 6 [AV.agg (Row.gen [.list (.ints .i64 mk), .int .i64 le, .int .i64 er, .int .i64 ve, .int .i64 fy, .int .i64 sl])]=some (ZPm mk le er ve fy sl):=rfl
def Zzg(A:Ar)(K:KT)(F:FT)(mk:zI)(le er ve fy sl:Int):Prop:=let u1:=A.int (A.len mk);let u0:=A.add u1 sl;bB (A.not (A.eq (mkE mk) 0)) (F (AV.int .i64 (mkE mk)) none) (bB (A.not (Zaf le 1 200)) (F (AV.int .i64 2) none) (bB (A.not (Zaf er 0 32)) (F (AV.int .i64 2) none) (bB (A.not (Zaf ve 1 5)) (F (AV.int .i64 2) none) (bB (A.not (Zaf fy 0 5)) (F (AV.int .i64 2) none) (bB (A.not (Zaf sl 0 3)) (F (AV.int .i64 2) none) (rB [A.inR .i64 (A.mul 2 er)] (bB (A.le u1 (A.mul 2 er)) (F (AV.int .i64 23) none) (rB [A.inR .i64 (A.add u0 1),A.inR .i64 u0] (bB (A.lt le (A.add u0 1)) (F (AV.int .i64 10) none) (F (AV.int .i64 0) none))))))))))
theorem ZRe{A:Ar}{K:KT}{F:FT}{M:MT}{mk:zI}{le er ve fy sl:Int} :Zah A tab Va 6 K F M (.run 18 (.tf (.run 6 (.fn)) (.run 9 (.tf (.ty (.ty (.ty (.ty (.run 1 (.ty (.ty (.ty (.ty (.ty (.run 1 (.ty (.ty (.ty (.ty (.ty (.run 1 (.ty (.ty (.ty (.ty (.ty (.run 2 (.ty (.run 5 (.fn)))))))))))))))))))))))))) (.fy (.fy (.fy (.fy (.run 1 (.tf (.ty (.ty (.ty (.ty (.run 1 (.ty (.ty (.ty (.ty (.ty (.run 1 (.ty (.ty (.ty (.ty (.ty (.run 2 (.ty (.run 5 (.fn)))))))))))))))))))) (.fy (.fy (.fy (.fy (.run 1 (.tf (.ty (.ty (.ty (.ty (.run 1 (.ty (.ty (.ty (.ty (.ty (.run 2 (.ty (.run 5 (.fn)))))))))))))) (.fy (.fy (.fy (.fy (.run 1 (.tf (.ty (.ty (.ty (.ty (.run 2 (.ty (.run 5 (.fn)))))))) (.fy (.fy (.fy (.fy (.run 2 (.tf (.run 5 (.fn)) (.run 13 (.tf (.run 5 (.fn)) (.run 16 (.tf (.run 5 (.fn)) (.run 6 (.fn)))))))))))))))))))))))))))))))))) (f6e mk le er ve fy sl) []=Zzg A K F mk le er ve fy sl:=by kernel_rfl
def ZFQ(mk:zI)(le er ve fy sl:Int):AFrame:=vF 19 8 [(0,AV.agg (Row.gen [.list (.ints .i64 mk), .int .i64 le, .int .i64 er, .int .i64 ve, .int .i64 fy, .int .i64 sl]))] [.code a19.code] [ARes.cell 2 true 6]
def ZQp(mk:zI)(le er ve fy sl:Int):List AFrame:=[(ZFQ mk le er ve fy sl)]
theorem ZC8(mk:zI)(le er ve fy sl:Int):Zak tab 19 [AV.agg (Row.gen [.list (.ints .i64 mk), .int .i64 le, .int .i64 er, .int .i64 ve, .int .i64 fy, .int .i64 sl])]=some (ZFQ mk le er ve fy sl):=rfl
def ZJI(A:Ar)(K:KT)(F:FT)(mk:zI)(le er ve fy sl:Int):Prop:=rB [decide (List.length mk≤1000000)] (F (AV.agg (Row.gen [.list (.ints .i64 mk), .int .i64 le, .int .i64 er, .int .i64 ve, .int .i64 fy, .int .i64 sl])) none)
theorem ZLR{A:Ar}{K:KT}{F:FT}{M:MT}{mk:zI}{le er ve fy sl:Int} :Zah A tab Va 19 K F M (.run 19 (.fn)) (ZQp mk le er ve fy sl) []=ZJI A K F mk le er ve fy sl:=by kernel_rfl
def ZGG(g t s:Int):AFrame:=vF 37 35 [(0,AV.agg (Row.gen [.int .i64 g, .int .i64 t, .int .i64 s]))] [.code a37.code] [ARes.cell 2 true 4,.tmp 3]
def ZQN(g t s:Int):List AFrame:=[(ZGG g t s)]
theorem ZAE(g t s:Int):Zak tab 37 [AV.agg (Row.gen [.int .i64 g, .int .i64 t, .int .i64 s])]=some (ZGG g t s):=rfl
def ZGg(A:Ar)(K:KT)(F:FT)(g t s:Int):Prop:=let u0:=A.bits .and .i64 t 1;bB (A.not (Zaf g 1 8)) (F (AV.tup [AV.agg (Row.gen [.int .i64 g, .int .i64 t, .int .i64 s, .int .i64 s]),AV.int .i64 2]) none) (qB [decide (List.length [Zae (Zaf s 1 (mxG g)) 2,Zae (A.eq u0 1) 3]≤1000000),List.all [AV.int .i64 (Zae (Zaf s 1 (mxG g)) 2),AV.int .i64 (Zae (A.eq u0 1) 3)] fun x=>AV.bx x&&Nat.beq (Zad A x) 1,decide (Zaf g 1 8=true),Zaf t 1 (mxG g),decide (Zaf g 1 8=true)] (F (AV.tup [AV.agg (Row.gen [.int .i64 g, .int .i64 t, .int .i64 s, .int .i64 s]),AV.int .i64 (Zaj [Zae (Zaf s 1 (mxG g)) 2,Zae (A.eq u0 1) 3])]) none) (rB [decide (List.length [2,Zae (A.eq u0 1) 3]≤1000000),List.all [AV.int .i64 2,AV.int .i64 (Zae (A.eq u0 1) 3)] fun x=>AV.bx x&&Nat.beq (Zad A x) 1,!Zaf t 1 (mxG g),decide (Zaf g 1 8=true)] (F (AV.tup [AV.agg (Row.gen [.int .i64 g, .int .i64 t, .int .i64 s, .int .i64 s]),AV.int .i64 (Zaj [2,Zae (A.eq u0 1) 3])]) none)))
theorem ZNN{A:Ar}{K:KT}{F:FT}{M:MT}{g t s:Int} :Zah A tab Va 37 K F M (.run 23 (.tf (.run 7 (.fn)) (.run 7 (.tf (.run 2 (.fn)) (.run 2 (.fn)))))) (ZQN g t s) []=ZGg A K F g t s:=by kernel_rfl
end Go.Proofs.YtjhldefnjghcdaaGreat
namespace Go.Proofs.YtjhldefnjghcdaaGreat
section
variable {C:Ctx}(hC:C.P=Tryz.prog)
include hC
theorem Zk0(l:zI)(hl:l.length≤1000000)(n1 n3:Int)(b2:Bool):∀m k:Nat,k+m=l.length→Ev C (ZjV l l.length n1 b2 n3 k) (Zg4 l l.length n1 b2 n3 k) (ZaD 39 (.int .i64 (Zaj [n3,ZaF (l.drop k) (-7) 7])) none)
 |0,k,hk=>tgo hC Zk9 Zl3 (by
  rw[List.drop_of_length_le (by omega)]
  simp[ZeU,show ¬(k:Int)<l.length by omega,ZaF,Zae,AV.bx,Zad])
 |m+1,k,hk=>by
  have ih:=Zk0 l hl n1 n3 b2 m (k+1) (by omega)
  have hlt:(k:Int)<l.length:=by omega
  have hlt2:k<l.length:=by omega
  rw[ZcM (-7) 7 hlt2]
  refine tgo hC Zk9 Zl3 ?_
  cases h:Zaf (l.getD k 0) (-7) 7
  ·simp[-List.getD_eq_getElem?_getD,ZeU,hlt,hlt2,h,Zae,AV.bx,Zad]
  ·simp[-List.getD_eq_getElem?_getD,ZeU,hlt,hlt2,h,AV.bx,Zad]at ih⊢
   exact⟨by omega,by simpa using ih⟩
theorem Zkh(l:zI)(hl:l.length≤1000000)(n1 n3 n5 n6:Int)(b2 b4:Bool):∀m k:Nat,k+m=l.length→Ev C (Zjb l l.length n1 b2 n3 b4 n5 n6 k) (Zgy l l.length n1 b2 n3 b4 n5 n6 k) (ZaD 85 (.int .i64 (Zaj [n6,Zaj [n5,ZaF (l.drop k) 0 1]])) none)
 |0,k,hk=>tgo hC Zk9 ZnD (by
  rw[List.drop_of_length_le (by omega)]
  simp[Zey,show ¬(k:Int)<l.length by omega,ZaF,Zae,AV.bx,Zad])
 |m+1,k,hk=>by
  have ih:=Zkh l hl n1 n3 n5 n6 b2 b4 m (k+1) (by omega)
  have hlt:(k:Int)<l.length:=by omega
  have hlt2:k<l.length:=by omega
  rw[ZcM 0 1 hlt2]
  refine tgo hC Zk9 ZnD ?_
  cases h:Zaf (l.getD k 0) 0 1
  ·simp[-List.getD_eq_getElem?_getD,Zey,hlt,hlt2,h,Zae,AV.bx,Zad]
  ·simp[-List.getD_eq_getElem?_getD,Zey,hlt,hlt2,h,AV.bx,Zad]at ih⊢
   exact⟨by omega,by simpa using ih⟩
end
theorem Zwt(l:zI)(hl:l.length≤1000000):ZaK Tryz.prog 39 [.list (.ints .i64 l)] (.int .i64 (sfF l)) none:=by
 refine start (ZD6 l) fun C hC=>tgo hC Zk9 ZLu ?_
 have i:=Zk0 hC l hl l.length (Zae (decide ((l.length:Int)≤600)) 8) (decide ((l.length:Int)≤600)) l.length 0 (by omega)
 rw[List.drop_zero]at i
 have e:Zaj [Zae (decide ((l.length:Int)≤600)) 8,ZaF l (-7) 7]=sfF l:=by
  unfold sfF
  by_cases h:600<l.length
  ·simp[Zaj,Zae,h,show ¬(l.length:Int)≤600 by omega]
  ·by_cases h2:ZaF l (-7) 7=0<;>simp[Zaj,Zae,h,show(l.length:Int)≤600 by omega,h2]
 rw[e]at i
 simp[ZIQ]at i⊢
 exact i
theorem ZwH(l:zI)(hl:l.length≤1000000):ZaK Tryz.prog 85 [.list (.ints .i64 l)] (.int .i64 (mkE l)) none:=by
 refine start (ZBc l) fun C hC=>tgo hC Zk9 ZNi ?_
 have i:=Zkh hC l hl l.length l.length (Zae (decide ((l.length:Int)≤32)) 8) (Zae (decide ((0:Int)<l.length)) 10) (decide ((l.length:Int)≤32)) (decide ((0:Int)<l.length)) l.length 0 (by omega)
 rw[List.drop_zero]at i
 have e:Zaj [Zae (decide ((0:Int)<l.length)) 10,Zaj [Zae (decide ((l.length:Int)≤32)) 8,ZaF l 0 1]]=mkE l:=by
  unfold mkE
  by_cases h0:l.length=0
  ·simp[Zaj,Zae,h0]
  ·by_cases h:32<l.length
   ·simp[Zaj,Zae,h0,h,show ¬(l.length:Int)≤32 by omega,show(0:Int)<l.length by omega]
   ·by_cases h2:ZaF l 0 1=0<;>simp[Zaj,Zae,h0,h,show(l.length:Int)≤32 by omega,show(0:Int)<l.length by omega,h2]
 rw[e]at i
 simp[ZKP]at i⊢
 exact i
@[irreducible] def ruE (mk:zI) (le er ve fy sl:Int):Int:=if mkE mk≠0 then mkE mk else if Zaf le 1 200=true∧Zaf er 0 32=true∧Zaf ve 1 5=true∧Zaf fy 0 5=true∧Zaf sl 0 3=true then(if (mk.length:Int)≤2*er then 23 else if le<mk.length+sl+1 then 10 else 0)else 2
theorem ZiD{l:zI}(h:mkE l=0):1≤l.length∧l.length≤32∧ZaF l 0 1=0:=by
 unfold mkE at h
 split at h
 ·cases h
 ·split at h
  ·cases h
  ·exact⟨by omega,by omega,h⟩
theorem ZvS(mk:zI)(le er ve fy sl:Int):ZaK Tryz.prog 6 [.agg (.gen [.list (.ints .i64 mk), .int .i64 le, .int .i64 er, .int .i64 ve, .int .i64 fy, .int .i64 sl])] (.int .i64 (ruE mk le er ve fy sl)) none:=by
 refine start (ZGA mk le er ve fy sl) fun C hC=>tgo hC Zk9 ZRe ?_
 unfold ruE
 by_cases h0:mkE mk=0
 ·have hk:=ZiD h0
  cases h1:Zaf le 1 200
  ·simp[Zzg,h0,h1]
  ·cases h2:Zaf er 0 32
   ·simp[Zzg,h0,h1,h2]
   ·cases h3:Zaf ve 1 5
    ·simp[Zzg,h0,h1,h2,h3]
    ·cases h4:Zaf fy 0 5
     ·simp[Zzg,h0,h1,h2,h3,h4]
     ·cases h5:Zaf sl 0 3
      ·simp[Zzg,h0,h1,h2,h3,h4,h5]
      ·have q2:=of_decide_eq_true h2
       have q5:=of_decide_eq_true h5
       by_cases h6:(mk.length:Int)≤2*er
       ·simp[Zzg,h0,h1,h2,h3,h4,h5,h6];omega
       ·by_cases h7:le<mk.length+sl+1<;>simp[Zzg,h0,h1,h2,h3,h4,h5,h6,h7]<;>omega
 ·simp[Zzg,h0]
theorem Zwf(mk:zI)(le er ve fy sl:Int)(h:mk.length≤1000000):ZaK Tryz.prog 19 [.agg (.gen [.list (.ints .i64 mk), .int .i64 le, .int .i64 er, .int .i64 ve, .int .i64 fy, .int .i64 sl])] (.agg (.gen [.list (.ints .i64 mk), .int .i64 le, .int .i64 er, .int .i64 ve, .int .i64 fy, .int .i64 sl])) none:=by
 refine start (ZC8 mk le er ve fy sl) fun C hC=>tgo hC Zk9 ZLR ?_
 simp[ZJI,h]
theorem ZIB{g t s:Int}(h:rdE g t s=0):Zaf g 1 8=true∧Zaf t 1 (mxG g)=true∧Zaf s 1 (mxG g)=true∧t.tmod 2=1:=by
 unfold rdE at h
 split at h
 ·rename_i h1
  split at h
  ·rename_i h2
   split at h
   ·cases h
   ·have q:=of_decide_eq_true h2.1
    refine⟨h1,h2.1,h2.2,?_⟩
    have e:=Int.tmod_eq_emod_of_nonneg (b:=2) (show 0≤t by omega)
    omega
  ·cases h
 ·cases h
set_option maxRecDepth 100000 in
theorem ZDV{t:Int}(h:0≤t∧t≤255):std.bits .and .i64 t 1=t.tmod 2:=by
 obtain⟨k,rfl⟩:=Int.eq_ofNat_of_zero_le h.1
 exact(by decide:∀a:Fin 256,std.bits .and .i64 (a.val:Int) 1=(a.val:Int).tmod 2) ⟨k,by omega⟩
theorem Zwe(g t s:Int)(h:rdE g t s=0):ZaK Tryz.prog 37 [.agg (.gen [.int .i64 g, .int .i64 t, .int .i64 s])] (.tup [.agg (.gen [.int .i64 g, .int .i64 t, .int .i64 s, .int .i64 s]), .int .i64 0]) none:=by
 obtain⟨h1,h2,h3,h4⟩:=ZIB h
 have q:=of_decide_eq_true h1
 have q2:=of_decide_eq_true h2
 obtain⟨m1,m2,_⟩:=Zr8 q
 have e:=ZDV (t:=t) ⟨by omega,by omega⟩
 refine start (ZAE g t s) fun C hC=>tgo hC Zk9 ZNN ?_
 simp only[ZGg,e,h4]
 simp[h1,h2,h3,Zae,Zaj,AV.bx,Zad]
def k39s:Ctr:=⟨39,0,fun _ a=>match a with |[.list (.ints .i64 l)]=>some (decide (l.length≤1000000), .int .i64 (sfF l),none) |_=>none⟩
theorem ZB9:k39s.OK Tryz.prog:=fun pa args r fr h=>by
 simp only[k39s]at h
 split at h
 ·simp only[Option.some.injEq,Prod.mk.injEq,decide_eq_true_eq]at h
  obtain⟨h0,rfl,rfl⟩:=h
  exact Zwt _ h0
 ·cases h
def k85s:Ctr:=⟨85,0,fun _ a=>match a with |[.list (.ints .i64 l)]=>some (decide (l.length≤1000000), .int .i64 (mkE l),none) |_=>none⟩
theorem ZDc:k85s.OK Tryz.prog:=fun pa args r fr h=>by
 simp only[k85s]at h
 split at h
 ·simp only[Option.some.injEq,Prod.mk.injEq,decide_eq_true_eq]at h
  obtain⟨h0,rfl,rfl⟩:=h
  exact ZwH _ h0
 ·cases h
def k6s:Ctr:=⟨6,0,fun _ a=>match a with |[.agg (.gen [.list (.ints .i64 mk), .int .i64 le, .int .i64 er, .int .i64 ve, .int .i64 fy, .int .i64 sl])]=>some (true, .int .i64 (ruE mk le er ve fy sl),none) |_=>none⟩
theorem ZIW:k6s.OK Tryz.prog:=fun pa args r fr h=>by
 simp only[k6s]at h
 split at h
 ·cases h
  exact ZvS _ _ _ _ _ _
 ·cases h
def k19s:Ctr:=⟨19,0,fun _ a=>match a with |[.agg (.gen [.list (.ints .i64 mk), .int .i64 le, .int .i64 er, .int .i64 ve, .int .i64 fy, .int .i64 sl])]=>some (decide (mk.length≤1000000), .agg (.gen [.list (.ints .i64 mk), .int .i64 le, .int .i64 er, .int .i64 ve, .int .i64 fy, .int .i64 sl]),none) |_=>none⟩
theorem ZBT:k19s.OK Tryz.prog:=fun pa args r fr h=>by
 simp only[k19s]at h
 split at h
 ·simp only[Option.some.injEq,Prod.mk.injEq,decide_eq_true_eq]at h
  obtain⟨h0,rfl,rfl⟩:=h
  exact Zwf _ _ _ _ _ _ h0
 ·cases h
def k37s:Ctr:=⟨37,0,fun _ a=>match a with |[.agg (.gen [.int .i64 g, .int .i64 t, .int .i64 s])]=>some (decide (rdE g t s=0), .tup [.agg (.gen [.int .i64 g, .int .i64 t, .int .i64 s, .int .i64 s]), .int .i64 0],none) |_=>none⟩
theorem ZAF:k37s.OK Tryz.prog:=fun pa args r fr h=>by
 simp only[k37s]at h
 split at h
 ·simp only[Option.some.injEq,Prod.mk.injEq,decide_eq_true_eq]at h
  obtain⟨h0,rfl,rfl⟩:=h
  exact Zwe _ _ _ h0
 ·cases h
def Vb:List Ctr:=[k39s,k85s,k6s,k19s,k37s]++Va
theorem ZuO:Zar Tryz.prog Vb:=⟨ZB9,⟨ZDc,⟨ZIW,⟨ZBT,⟨ZAF,Zk9⟩⟩⟩⟩⟩
end Go.Proofs.YtjhldefnjghcdaaGreat
namespace Go.Proofs.YtjhldefnjghcdaaGreat
set_option maxRecDepth 100000
set_option linter.unusedVariables false
def ZFg(mk:zI)(le er ve fy sl:Int):AFrame:=vF 66 52 [(0,AV.agg (Row.gen [.list (.ints .i64 mk), .int .i64 le, .int .i64 er, .int .i64 ve, .int .i64 fy, .int .i64 sl]))] [.code a66.code] [.tmp 2]
def ZQW(mk:zI)(le er ve fy sl:Int):List AFrame:=[(ZFg mk le er ve fy sl)]
theorem ZEn(mk:zI)(le er ve fy sl:Int):Zak tab 66 [AV.agg (Row.gen [.list (.ints .i64 mk), .int .i64 le, .int .i64 er, .int .i64 ve, .int .i64 fy, .int .i64 sl])]=some (ZFg mk le er ve fy sl):=rfl
def ZIh(A:Ar)(K:KT)(F:FT)(mk:zI)(le er ve fy sl:Int):Prop:=let u0:=A.int (A.len mk);let u1:=A.add u0 sl;let u2:=A.mul 2 er;bB (Zaf le 1 200) (bB (Zaf er 0 32) (bB (Zaf ve 1 5) (bB (Zaf fy 0 5) (rB [decide (List.length [mkE mk,Zae (Zaf sl 0 3) 2,Zae (A.lt u2 u0) 23,Zae (A.lt u1 le) 10]≤1000000),List.all [AV.int .i64 (mkE mk),AV.int .i64 (Zae (Zaf sl 0 3) 2),AV.int .i64 (Zae (A.lt u2 u0) 23),AV.int .i64 (Zae (A.lt u1 le) 10)] fun x=>AV.bx x&&Nat.beq (Zad A x) 1,A.inR .i64 u1,A.inR .i64 u2,decide (List.length mk≤1000000)] (F (AV.int .i64 (Zaj [mkE mk,Zae (Zaf sl 0 3) 2,Zae (A.lt u2 u0) 23,Zae (A.lt u1 le) 10])) none)) (rB [decide (List.length [mkE mk,2,Zae (A.lt u2 u0) 23,Zae (A.lt u1 le) 10]≤1000000),List.all [AV.int .i64 (mkE mk),AV.int .i64 2,AV.int .i64 (Zae (A.lt u2 u0) 23),AV.int .i64 (Zae (A.lt u1 le) 10)] fun x=>AV.bx x&&Nat.beq (Zad A x) 1,A.inR .i64 u1,A.inR .i64 u2,decide (List.length mk≤1000000)] (F (AV.int .i64 (Zaj [mkE mk,2,Zae (A.lt u2 u0) 23,Zae (A.lt u1 le) 10])) none))) (rB [decide (List.length [mkE mk,2,Zae (A.lt u2 u0) 23,Zae (A.lt u1 le) 10]≤1000000),List.all [AV.int .i64 (mkE mk),AV.int .i64 2,AV.int .i64 (Zae (A.lt u2 u0) 23),AV.int .i64 (Zae (A.lt u1 le) 10)] fun x=>AV.bx x&&Nat.beq (Zad A x) 1,A.inR .i64 u1,A.inR .i64 u2,decide (List.length mk≤1000000)] (F (AV.int .i64 (Zaj [mkE mk,2,Zae (A.lt u2 u0) 23,Zae (A.lt u1 le) 10])) none))) (rB [decide (List.length [mkE mk,2,Zae (A.lt u2 u0) 23,Zae (A.lt u1 le) 10]≤1000000),List.all [AV.int .i64 (mkE mk),AV.int .i64 2,AV.int .i64 (Zae (A.lt u2 u0) 23),AV.int .i64 (Zae (A.lt u1 le) 10)] fun x=>AV.bx x&&Nat.beq (Zad A x) 1,A.inR .i64 u1,A.inR .i64 u2,decide (List.length mk≤1000000)] (F (AV.int .i64 (Zaj [mkE mk,2,Zae (A.lt u2 u0) 23,Zae (A.lt u1 le) 10])) none))) (rB [decide (List.length [mkE mk,2,Zae (A.lt u2 u0) 23,Zae (A.lt u1 le) 10]≤1000000),List.all [AV.int .i64 (mkE mk),AV.int .i64 2,AV.int .i64 (Zae (A.lt u2 u0) 23),AV.int .i64 (Zae (A.lt u1 le) 10)] fun x=>AV.bx x&&Nat.beq (Zad A x) 1,A.inR .i64 u1,A.inR .i64 u2,decide (List.length mk≤1000000)] (F (AV.int .i64 (Zaj [mkE mk,2,Zae (A.lt u2 u0) 23,Zae (A.lt u1 le) 10])) none))
theorem ZM8{A:Ar}{K:KT}{F:FT}{M:MT}{mk:zI}{le er ve fy sl:Int} :Zah A tab Vb 66 K F M (.run 11 (.tf (.ty (.ty (.ty (.run 1 (.tf (.ty (.ty (.ty (.run 1 (.tf (.ty (.ty (.ty (.run 1 (.tf (.ty (.ty (.ty (.run 7 (.fn))))) (.fy (.fy (.fy (.run 7 (.fn)))))))))) (.fy (.fy (.fy (.run 1 (.fy (.fy (.fy (.fy (.run 7 (.fn))))))))))))))) (.fy (.fy (.fy (.run 1 (.fy (.fy (.fy (.fy (.run 1 (.fy (.fy (.fy (.fy (.run 7 (.fn)))))))))))))))))))) (.fy (.fy (.fy (.run 1 (.fy (.fy (.fy (.fy (.run 1 (.fy (.fy (.fy (.fy (.run 1 (.fy (.fy (.fy (.fy (.run 7 (.fn)))))))))))))))))))))) (ZQW mk le er ve fy sl) []=ZIh A K F mk le er ve fy sl:=by kernel_rfl
def ZIu(mk so:zI)(at0:Int):AFrame:=vF 69 42 [vL 0 mk,vL 1 so,vI 2 at0] [.code a69.code] [ARes.cell 6 true 2]
def ZQk(mk so:zI)(at0:Int):List AFrame:=[(ZIu mk so at0)]
theorem ZEk(mk so:zI)(at0:Int):Zak tab 69 [AV.list (.ints .i64 mk),AV.list (.ints .i64 so),AV.int .i64 at0]=some (ZIu mk so at0):=rfl
def Zj9(mk so:zI)(at0 n0 n1:Int)(l2:zI):List AFrame:=[vF 69 42 [vL 1 so,vI 2 at0,vP 6 69007,vP 7 69008,vL 11 mk,vI 12 n0,vI 13 n1] (vC ZGU ZMS) [ARes.cell 6 true 2]]
def Zgr(mk so:zI)(at0 n0 n1:Int)(l2:zI):Zaa:=[(69007,{ base:=0,blks:=[Blk.row 22 2 (Row.gen [.agg (.ints .i64 [0,0])])] }),(69008,{ base:=0,blks:=[Blk.row 22 2 (Row.gen [.agg (.ints .i64 l2)])] })]
abbrev Zdb(mk so:zI)(at0 n0 n1:Int)(l2:zI):List AFrame×Zaa:=(Zj9 mk so at0 n0 n1 l2,Zgr mk so at0 n0 n1 l2)
def ZFi(A:Ar)(K:KT)(F:FT)(mk so:zI)(at0:Int):Prop:=rB [Nat.blt 0 (A.len [0,0]),Nat.blt 0 (A.len [0,0])] (K (Zdb mk so at0 (A.int (A.len mk)) 0 ([0,0])))
theorem ZMA{A:Ar}{K:KT}{F:FT}{M:MT}{mk so:zI}{at0:Int} :Zah A tab Vb 69 K F M (.run 18 (.hd)) (ZQk mk so at0) []=ZFi A K F mk so at0:=by kernel_rfl
def Zdd(A:Ar)(K:KT)(F:FT)(mk so:zI)(at0 n0 n1:Int)(l2:zI):Prop:=let u6:=A.add (A.nth l2 0) 1;let u0:=A.set l2 0 u6;let u9:=A.nth mk (A.nat n1);let u1:=A.sub 1 u9;let u2:=A.add n1 1;let u4:=A.add at0 n1;let u3:=A.nth so (A.nat u4);let u5:=A.sub3 l2 0 2;let u7:=A.add (A.nth u0 1) 1;let u8:=A.add (A.nth l2 1) 1;let ua:=A.len l2;bB (A.lt n1 n0) (rB [Zac (Zac (A.le 0 u4) (Nat.blt (A.nat u4) (A.len so))) true,A.inR .i64 u4,Zac (Zac (A.le 0 n1) (Nat.blt (A.nat n1) (A.len mk))) true] (bB (A.not (A.eq (hdI u3) u9)) (rB [A.inR .i64 u1,A.inR .i64 u6,Nat.blt 0 ua] (bB (A.not (A.eq (hdI u3) u1)) (rB [A.inR .i64 u2,A.inR .i64 u7,Nat.blt 1 (A.len u0)] (K (Zdb mk so at0 n0 u2 (A.set u0 1 u7)))) (rB [A.inR .i64 u2] (K (Zdb mk so at0 n0 u2 u0))))) (rB [A.inR .i64 u1] (bB (A.not (A.eq (hdI u3) u1)) (rB [A.inR .i64 u2,A.inR .i64 u8,Nat.blt 1 ua] (K (Zdb mk so at0 n0 u2 (A.set l2 1 u8)))) (rB [A.inR .i64 u2] (K (Zdb mk so at0 n0 u2 l2))))))) (rB [Nat.beq (A.len u5) 2,Nat.ble 2 ua] (rB [Zac (Zac (Nat.ble 2 (A.len u5)) true) true] (F (AV.agg (.ints .i64 (A.sub3 u5 0 2))) none)))
theorem ZlN{A:Ar}{K:KT}{F:FT}{M:MT}{mk so:zI}{at0 n0 n1:Int}{l2:zI} :Zah A tab Vb 69 K F M (.run 6 (.tf (.run 30 (.tf (.run 14 (.tf (.run 14 (.hd)) (.run 8 (.hd)))) (.run 8 (.tf (.run 14 (.hd)) (.run 8 (.hd)))))) (.run 7 (.fn)))) (Zj9 mk so at0 n0 n1 l2) (Zgr mk so at0 n0 n1 l2)=Zdd A K F mk so at0 n0 n1 l2:=by kernel_rfl
end Go.Proofs.YtjhldefnjghcdaaGreat
namespace Go.Proofs.YtjhldefnjghcdaaGreat
def obI(A:Ar)(n:Int):List Bool:=[A.inR .i64 (A.add (A.add (A.add (A.bits .and .u64 (A.add (A.shr (A.add (A.bits .and .u64 (A.shr (A.add (A.bits .and .u64 (A.shr n 1) 6148914691236517205) (A.bits .and .u64 n 6148914691236517205)) 2) 3689348814741910323) (A.bits .and .u64 (A.add (A.bits .and .u64 (A.shr n 1) 6148914691236517205) (A.bits .and .u64 n 6148914691236517205)) 3689348814741910323)) 4) (A.add (A.bits .and .u64 (A.shr (A.add (A.bits .and .u64 (A.shr n 1) 6148914691236517205) (A.bits .and .u64 n 6148914691236517205)) 2) 3689348814741910323) (A.bits .and .u64 (A.add (A.bits .and .u64 (A.shr n 1) 6148914691236517205) (A.bits .and .u64 n 6148914691236517205)) 3689348814741910323))) 1085102592571150095) (A.shr (A.bits .and .u64 (A.add (A.shr (A.add (A.bits .and .u64 (A.shr (A.add (A.bits .and .u64 (A.shr n 1) 6148914691236517205) (A.bits .and .u64 n 6148914691236517205)) 2) 3689348814741910323) (A.bits .and .u64 (A.add (A.bits .and .u64 (A.shr n 1) 6148914691236517205) (A.bits .and .u64 n 6148914691236517205)) 3689348814741910323)) 4) (A.add (A.bits .and .u64 (A.shr (A.add (A.bits .and .u64 (A.shr n 1) 6148914691236517205) (A.bits .and .u64 n 6148914691236517205)) 2) 3689348814741910323) (A.bits .and .u64 (A.add (A.bits .and .u64 (A.shr n 1) 6148914691236517205) (A.bits .and .u64 n 6148914691236517205)) 3689348814741910323))) 1085102592571150095) 8)) (A.shr (A.add (A.bits .and .u64 (A.add (A.shr (A.add (A.bits .and .u64 (A.shr (A.add (A.bits .and .u64 (A.shr n 1) 6148914691236517205) (A.bits .and .u64 n 6148914691236517205)) 2) 3689348814741910323) (A.bits .and .u64 (A.add (A.bits .and .u64 (A.shr n 1) 6148914691236517205) (A.bits .and .u64 n 6148914691236517205)) 3689348814741910323)) 4) (A.add (A.bits .and .u64 (A.shr (A.add (A.bits .and .u64 (A.shr n 1) 6148914691236517205) (A.bits .and .u64 n 6148914691236517205)) 2) 3689348814741910323) (A.bits .and .u64 (A.add (A.bits .and .u64 (A.shr n 1) 6148914691236517205) (A.bits .and .u64 n 6148914691236517205)) 3689348814741910323))) 1085102592571150095) (A.shr (A.bits .and .u64 (A.add (A.shr (A.add (A.bits .and .u64 (A.shr (A.add (A.bits .and .u64 (A.shr n 1) 6148914691236517205) (A.bits .and .u64 n 6148914691236517205)) 2) 3689348814741910323) (A.bits .and .u64 (A.add (A.bits .and .u64 (A.shr n 1) 6148914691236517205) (A.bits .and .u64 n 6148914691236517205)) 3689348814741910323)) 4) (A.add (A.bits .and .u64 (A.shr (A.add (A.bits .and .u64 (A.shr n 1) 6148914691236517205) (A.bits .and .u64 n 6148914691236517205)) 2) 3689348814741910323) (A.bits .and .u64 (A.add (A.bits .and .u64 (A.shr n 1) 6148914691236517205) (A.bits .and .u64 n 6148914691236517205)) 3689348814741910323))) 1085102592571150095) 8)) 16)) (A.shr (A.add (A.add (A.bits .and .u64 (A.add (A.shr (A.add (A.bits .and .u64 (A.shr (A.add (A.bits .and .u64 (A.shr n 1) 6148914691236517205) (A.bits .and .u64 n 6148914691236517205)) 2) 3689348814741910323) (A.bits .and .u64 (A.add (A.bits .and .u64 (A.shr n 1) 6148914691236517205) (A.bits .and .u64 n 6148914691236517205)) 3689348814741910323)) 4) (A.add (A.bits .and .u64 (A.shr (A.add (A.bits .and .u64 (A.shr n 1) 6148914691236517205) (A.bits .and .u64 n 6148914691236517205)) 2) 3689348814741910323) (A.bits .and .u64 (A.add (A.bits .and .u64 (A.shr n 1) 6148914691236517205) (A.bits .and .u64 n 6148914691236517205)) 3689348814741910323))) 1085102592571150095) (A.shr (A.bits .and .u64 (A.add (A.shr (A.add (A.bits .and .u64 (A.shr (A.add (A.bits .and .u64 (A.shr n 1) 6148914691236517205) (A.bits .and .u64 n 6148914691236517205)) 2) 3689348814741910323) (A.bits .and .u64 (A.add (A.bits .and .u64 (A.shr n 1) 6148914691236517205) (A.bits .and .u64 n 6148914691236517205)) 3689348814741910323)) 4) (A.add (A.bits .and .u64 (A.shr (A.add (A.bits .and .u64 (A.shr n 1) 6148914691236517205) (A.bits .and .u64 n 6148914691236517205)) 2) 3689348814741910323) (A.bits .and .u64 (A.add (A.bits .and .u64 (A.shr n 1) 6148914691236517205) (A.bits .and .u64 n 6148914691236517205)) 3689348814741910323))) 1085102592571150095) 8)) (A.shr (A.add (A.bits .and .u64 (A.add (A.shr (A.add (A.bits .and .u64 (A.shr (A.add (A.bits .and .u64 (A.shr n 1) 6148914691236517205) (A.bits .and .u64 n 6148914691236517205)) 2) 3689348814741910323) (A.bits .and .u64 (A.add (A.bits .and .u64 (A.shr n 1) 6148914691236517205) (A.bits .and .u64 n 6148914691236517205)) 3689348814741910323)) 4) (A.add (A.bits .and .u64 (A.shr (A.add (A.bits .and .u64 (A.shr n 1) 6148914691236517205) (A.bits .and .u64 n 6148914691236517205)) 2) 3689348814741910323) (A.bits .and .u64 (A.add (A.bits .and .u64 (A.shr n 1) 6148914691236517205) (A.bits .and .u64 n 6148914691236517205)) 3689348814741910323))) 1085102592571150095) (A.shr (A.bits .and .u64 (A.add (A.shr (A.add (A.bits .and .u64 (A.shr (A.add (A.bits .and .u64 (A.shr n 1) 6148914691236517205) (A.bits .and .u64 n 6148914691236517205)) 2) 3689348814741910323) (A.bits .and .u64 (A.add (A.bits .and .u64 (A.shr n 1) 6148914691236517205) (A.bits .and .u64 n 6148914691236517205)) 3689348814741910323)) 4) (A.add (A.bits .and .u64 (A.shr (A.add (A.bits .and .u64 (A.shr n 1) 6148914691236517205) (A.bits .and .u64 n 6148914691236517205)) 2) 3689348814741910323) (A.bits .and .u64 (A.add (A.bits .and .u64 (A.shr n 1) 6148914691236517205) (A.bits .and .u64 n 6148914691236517205)) 3689348814741910323))) 1085102592571150095) 8)) 16)) 32)),A.inR .u64 (A.add (A.add (A.add (A.bits .and .u64 (A.add (A.shr (A.add (A.bits .and .u64 (A.shr (A.add (A.bits .and .u64 (A.shr n 1) 6148914691236517205) (A.bits .and .u64 n 6148914691236517205)) 2) 3689348814741910323) (A.bits .and .u64 (A.add (A.bits .and .u64 (A.shr n 1) 6148914691236517205) (A.bits .and .u64 n 6148914691236517205)) 3689348814741910323)) 4) (A.add (A.bits .and .u64 (A.shr (A.add (A.bits .and .u64 (A.shr n 1) 6148914691236517205) (A.bits .and .u64 n 6148914691236517205)) 2) 3689348814741910323) (A.bits .and .u64 (A.add (A.bits .and .u64 (A.shr n 1) 6148914691236517205) (A.bits .and .u64 n 6148914691236517205)) 3689348814741910323))) 1085102592571150095) (A.shr (A.bits .and .u64 (A.add (A.shr (A.add (A.bits .and .u64 (A.shr (A.add (A.bits .and .u64 (A.shr n 1) 6148914691236517205) (A.bits .and .u64 n 6148914691236517205)) 2) 3689348814741910323) (A.bits .and .u64 (A.add (A.bits .and .u64 (A.shr n 1) 6148914691236517205) (A.bits .and .u64 n 6148914691236517205)) 3689348814741910323)) 4) (A.add (A.bits .and .u64 (A.shr (A.add (A.bits .and .u64 (A.shr n 1) 6148914691236517205) (A.bits .and .u64 n 6148914691236517205)) 2) 3689348814741910323) (A.bits .and .u64 (A.add (A.bits .and .u64 (A.shr n 1) 6148914691236517205) (A.bits .and .u64 n 6148914691236517205)) 3689348814741910323))) 1085102592571150095) 8)) (A.shr (A.add (A.bits .and .u64 (A.add (A.shr (A.add (A.bits .and .u64 (A.shr (A.add (A.bits .and .u64 (A.shr n 1) 6148914691236517205) (A.bits .and .u64 n 6148914691236517205)) 2) 3689348814741910323) (A.bits .and .u64 (A.add (A.bits .and .u64 (A.shr n 1) 6148914691236517205) (A.bits .and .u64 n 6148914691236517205)) 3689348814741910323)) 4) (A.add (A.bits .and .u64 (A.shr (A.add (A.bits .and .u64 (A.shr n 1) 6148914691236517205) (A.bits .and .u64 n 6148914691236517205)) 2) 3689348814741910323) (A.bits .and .u64 (A.add (A.bits .and .u64 (A.shr n 1) 6148914691236517205) (A.bits .and .u64 n 6148914691236517205)) 3689348814741910323))) 1085102592571150095) (A.shr (A.bits .and .u64 (A.add (A.shr (A.add (A.bits .and .u64 (A.shr (A.add (A.bits .and .u64 (A.shr n 1) 6148914691236517205) (A.bits .and .u64 n 6148914691236517205)) 2) 3689348814741910323) (A.bits .and .u64 (A.add (A.bits .and .u64 (A.shr n 1) 6148914691236517205) (A.bits .and .u64 n 6148914691236517205)) 3689348814741910323)) 4) (A.add (A.bits .and .u64 (A.shr (A.add (A.bits .and .u64 (A.shr n 1) 6148914691236517205) (A.bits .and .u64 n 6148914691236517205)) 2) 3689348814741910323) (A.bits .and .u64 (A.add (A.bits .and .u64 (A.shr n 1) 6148914691236517205) (A.bits .and .u64 n 6148914691236517205)) 3689348814741910323))) 1085102592571150095) 8)) 16)) (A.shr (A.add (A.add (A.bits .and .u64 (A.add (A.shr (A.add (A.bits .and .u64 (A.shr (A.add (A.bits .and .u64 (A.shr n 1) 6148914691236517205) (A.bits .and .u64 n 6148914691236517205)) 2) 3689348814741910323) (A.bits .and .u64 (A.add (A.bits .and .u64 (A.shr n 1) 6148914691236517205) (A.bits .and .u64 n 6148914691236517205)) 3689348814741910323)) 4) (A.add (A.bits .and .u64 (A.shr (A.add (A.bits .and .u64 (A.shr n 1) 6148914691236517205) (A.bits .and .u64 n 6148914691236517205)) 2) 3689348814741910323) (A.bits .and .u64 (A.add (A.bits .and .u64 (A.shr n 1) 6148914691236517205) (A.bits .and .u64 n 6148914691236517205)) 3689348814741910323))) 1085102592571150095) (A.shr (A.bits .and .u64 (A.add (A.shr (A.add (A.bits .and .u64 (A.shr (A.add (A.bits .and .u64 (A.shr n 1) 6148914691236517205) (A.bits .and .u64 n 6148914691236517205)) 2) 3689348814741910323) (A.bits .and .u64 (A.add (A.bits .and .u64 (A.shr n 1) 6148914691236517205) (A.bits .and .u64 n 6148914691236517205)) 3689348814741910323)) 4) (A.add (A.bits .and .u64 (A.shr (A.add (A.bits .and .u64 (A.shr n 1) 6148914691236517205) (A.bits .and .u64 n 6148914691236517205)) 2) 3689348814741910323) (A.bits .and .u64 (A.add (A.bits .and .u64 (A.shr n 1) 6148914691236517205) (A.bits .and .u64 n 6148914691236517205)) 3689348814741910323))) 1085102592571150095) 8)) (A.shr (A.add (A.bits .and .u64 (A.add (A.shr (A.add (A.bits .and .u64 (A.shr (A.add (A.bits .and .u64 (A.shr n 1) 6148914691236517205) (A.bits .and .u64 n 6148914691236517205)) 2) 3689348814741910323) (A.bits .and .u64 (A.add (A.bits .and .u64 (A.shr n 1) 6148914691236517205) (A.bits .and .u64 n 6148914691236517205)) 3689348814741910323)) 4) (A.add (A.bits .and .u64 (A.shr (A.add (A.bits .and .u64 (A.shr n 1) 6148914691236517205) (A.bits .and .u64 n 6148914691236517205)) 2) 3689348814741910323) (A.bits .and .u64 (A.add (A.bits .and .u64 (A.shr n 1) 6148914691236517205) (A.bits .and .u64 n 6148914691236517205)) 3689348814741910323))) 1085102592571150095) (A.shr (A.bits .and .u64 (A.add (A.shr (A.add (A.bits .and .u64 (A.shr (A.add (A.bits .and .u64 (A.shr n 1) 6148914691236517205) (A.bits .and .u64 n 6148914691236517205)) 2) 3689348814741910323) (A.bits .and .u64 (A.add (A.bits .and .u64 (A.shr n 1) 6148914691236517205) (A.bits .and .u64 n 6148914691236517205)) 3689348814741910323)) 4) (A.add (A.bits .and .u64 (A.shr (A.add (A.bits .and .u64 (A.shr n 1) 6148914691236517205) (A.bits .and .u64 n 6148914691236517205)) 2) 3689348814741910323) (A.bits .and .u64 (A.add (A.bits .and .u64 (A.shr n 1) 6148914691236517205) (A.bits .and .u64 n 6148914691236517205)) 3689348814741910323))) 1085102592571150095) 8)) 16)) 32)),Zac (A.le 0 32) (Nat.blt (A.nat 32) 64),A.inR .u64 (A.add (A.add (A.bits .and .u64 (A.add (A.shr (A.add (A.bits .and .u64 (A.shr (A.add (A.bits .and .u64 (A.shr n 1) 6148914691236517205) (A.bits .and .u64 n 6148914691236517205)) 2) 3689348814741910323) (A.bits .and .u64 (A.add (A.bits .and .u64 (A.shr n 1) 6148914691236517205) (A.bits .and .u64 n 6148914691236517205)) 3689348814741910323)) 4) (A.add (A.bits .and .u64 (A.shr (A.add (A.bits .and .u64 (A.shr n 1) 6148914691236517205) (A.bits .and .u64 n 6148914691236517205)) 2) 3689348814741910323) (A.bits .and .u64 (A.add (A.bits .and .u64 (A.shr n 1) 6148914691236517205) (A.bits .and .u64 n 6148914691236517205)) 3689348814741910323))) 1085102592571150095) (A.shr (A.bits .and .u64 (A.add (A.shr (A.add (A.bits .and .u64 (A.shr (A.add (A.bits .and .u64 (A.shr n 1) 6148914691236517205) (A.bits .and .u64 n 6148914691236517205)) 2) 3689348814741910323) (A.bits .and .u64 (A.add (A.bits .and .u64 (A.shr n 1) 6148914691236517205) (A.bits .and .u64 n 6148914691236517205)) 3689348814741910323)) 4) (A.add (A.bits .and .u64 (A.shr (A.add (A.bits .and .u64 (A.shr n 1) 6148914691236517205) (A.bits .and .u64 n 6148914691236517205)) 2) 3689348814741910323) (A.bits .and .u64 (A.add (A.bits .and .u64 (A.shr n 1) 6148914691236517205) (A.bits .and .u64 n 6148914691236517205)) 3689348814741910323))) 1085102592571150095) 8)) (A.shr (A.add (A.bits .and .u64 (A.add (A.shr (A.add (A.bits .and .u64 (A.shr (A.add (A.bits .and .u64 (A.shr n 1) 6148914691236517205) (A.bits .and .u64 n 6148914691236517205)) 2) 3689348814741910323) (A.bits .and .u64 (A.add (A.bits .and .u64 (A.shr n 1) 6148914691236517205) (A.bits .and .u64 n 6148914691236517205)) 3689348814741910323)) 4) (A.add (A.bits .and .u64 (A.shr (A.add (A.bits .and .u64 (A.shr n 1) 6148914691236517205) (A.bits .and .u64 n 6148914691236517205)) 2) 3689348814741910323) (A.bits .and .u64 (A.add (A.bits .and .u64 (A.shr n 1) 6148914691236517205) (A.bits .and .u64 n 6148914691236517205)) 3689348814741910323))) 1085102592571150095) (A.shr (A.bits .and .u64 (A.add (A.shr (A.add (A.bits .and .u64 (A.shr (A.add (A.bits .and .u64 (A.shr n 1) 6148914691236517205) (A.bits .and .u64 n 6148914691236517205)) 2) 3689348814741910323) (A.bits .and .u64 (A.add (A.bits .and .u64 (A.shr n 1) 6148914691236517205) (A.bits .and .u64 n 6148914691236517205)) 3689348814741910323)) 4) (A.add (A.bits .and .u64 (A.shr (A.add (A.bits .and .u64 (A.shr n 1) 6148914691236517205) (A.bits .and .u64 n 6148914691236517205)) 2) 3689348814741910323) (A.bits .and .u64 (A.add (A.bits .and .u64 (A.shr n 1) 6148914691236517205) (A.bits .and .u64 n 6148914691236517205)) 3689348814741910323))) 1085102592571150095) 8)) 16)),Zac (A.le 0 16) (Nat.blt (A.nat 16) 64),A.inR .u64 (A.add (A.bits .and .u64 (A.add (A.shr (A.add (A.bits .and .u64 (A.shr (A.add (A.bits .and .u64 (A.shr n 1) 6148914691236517205) (A.bits .and .u64 n 6148914691236517205)) 2) 3689348814741910323) (A.bits .and .u64 (A.add (A.bits .and .u64 (A.shr n 1) 6148914691236517205) (A.bits .and .u64 n 6148914691236517205)) 3689348814741910323)) 4) (A.add (A.bits .and .u64 (A.shr (A.add (A.bits .and .u64 (A.shr n 1) 6148914691236517205) (A.bits .and .u64 n 6148914691236517205)) 2) 3689348814741910323) (A.bits .and .u64 (A.add (A.bits .and .u64 (A.shr n 1) 6148914691236517205) (A.bits .and .u64 n 6148914691236517205)) 3689348814741910323))) 1085102592571150095) (A.shr (A.bits .and .u64 (A.add (A.shr (A.add (A.bits .and .u64 (A.shr (A.add (A.bits .and .u64 (A.shr n 1) 6148914691236517205) (A.bits .and .u64 n 6148914691236517205)) 2) 3689348814741910323) (A.bits .and .u64 (A.add (A.bits .and .u64 (A.shr n 1) 6148914691236517205) (A.bits .and .u64 n 6148914691236517205)) 3689348814741910323)) 4) (A.add (A.bits .and .u64 (A.shr (A.add (A.bits .and .u64 (A.shr n 1) 6148914691236517205) (A.bits .and .u64 n 6148914691236517205)) 2) 3689348814741910323) (A.bits .and .u64 (A.add (A.bits .and .u64 (A.shr n 1) 6148914691236517205) (A.bits .and .u64 n 6148914691236517205)) 3689348814741910323))) 1085102592571150095) 8)),Zac (A.le 0 8) (Nat.blt (A.nat 8) 64),A.inR .u64 (A.add (A.shr (A.add (A.bits .and .u64 (A.shr (A.add (A.bits .and .u64 (A.shr n 1) 6148914691236517205) (A.bits .and .u64 n 6148914691236517205)) 2) 3689348814741910323) (A.bits .and .u64 (A.add (A.bits .and .u64 (A.shr n 1) 6148914691236517205) (A.bits .and .u64 n 6148914691236517205)) 3689348814741910323)) 4) (A.add (A.bits .and .u64 (A.shr (A.add (A.bits .and .u64 (A.shr n 1) 6148914691236517205) (A.bits .and .u64 n 6148914691236517205)) 2) 3689348814741910323) (A.bits .and .u64 (A.add (A.bits .and .u64 (A.shr n 1) 6148914691236517205) (A.bits .and .u64 n 6148914691236517205)) 3689348814741910323))),Zac (A.le 0 4) (Nat.blt (A.nat 4) 64),A.inR .u64 (A.add (A.bits .and .u64 (A.shr (A.add (A.bits .and .u64 (A.shr n 1) 6148914691236517205) (A.bits .and .u64 n 6148914691236517205)) 2) 3689348814741910323) (A.bits .and .u64 (A.add (A.bits .and .u64 (A.shr n 1) 6148914691236517205) (A.bits .and .u64 n 6148914691236517205)) 3689348814741910323)),Zac (A.le 0 2) (Nat.blt (A.nat 2) 64),A.inR .u64 (A.add (A.bits .and .u64 (A.shr n 1) 6148914691236517205) (A.bits .and .u64 n 6148914691236517205)),Zac (A.le 0 1) (Nat.blt (A.nat 1) 64)]
def pcS(A:Ar)(n:Int):Int:=A.bits .and .i64 (A.add (A.add (A.add (A.bits .and .u64 (A.add (A.shr (A.add (A.bits .and .u64 (A.shr (A.add (A.bits .and .u64 (A.shr n 1) 6148914691236517205) (A.bits .and .u64 n 6148914691236517205)) 2) 3689348814741910323) (A.bits .and .u64 (A.add (A.bits .and .u64 (A.shr n 1) 6148914691236517205) (A.bits .and .u64 n 6148914691236517205)) 3689348814741910323)) 4) (A.add (A.bits .and .u64 (A.shr (A.add (A.bits .and .u64 (A.shr n 1) 6148914691236517205) (A.bits .and .u64 n 6148914691236517205)) 2) 3689348814741910323) (A.bits .and .u64 (A.add (A.bits .and .u64 (A.shr n 1) 6148914691236517205) (A.bits .and .u64 n 6148914691236517205)) 3689348814741910323))) 1085102592571150095) (A.shr (A.bits .and .u64 (A.add (A.shr (A.add (A.bits .and .u64 (A.shr (A.add (A.bits .and .u64 (A.shr n 1) 6148914691236517205) (A.bits .and .u64 n 6148914691236517205)) 2) 3689348814741910323) (A.bits .and .u64 (A.add (A.bits .and .u64 (A.shr n 1) 6148914691236517205) (A.bits .and .u64 n 6148914691236517205)) 3689348814741910323)) 4) (A.add (A.bits .and .u64 (A.shr (A.add (A.bits .and .u64 (A.shr n 1) 6148914691236517205) (A.bits .and .u64 n 6148914691236517205)) 2) 3689348814741910323) (A.bits .and .u64 (A.add (A.bits .and .u64 (A.shr n 1) 6148914691236517205) (A.bits .and .u64 n 6148914691236517205)) 3689348814741910323))) 1085102592571150095) 8)) (A.shr (A.add (A.bits .and .u64 (A.add (A.shr (A.add (A.bits .and .u64 (A.shr (A.add (A.bits .and .u64 (A.shr n 1) 6148914691236517205) (A.bits .and .u64 n 6148914691236517205)) 2) 3689348814741910323) (A.bits .and .u64 (A.add (A.bits .and .u64 (A.shr n 1) 6148914691236517205) (A.bits .and .u64 n 6148914691236517205)) 3689348814741910323)) 4) (A.add (A.bits .and .u64 (A.shr (A.add (A.bits .and .u64 (A.shr n 1) 6148914691236517205) (A.bits .and .u64 n 6148914691236517205)) 2) 3689348814741910323) (A.bits .and .u64 (A.add (A.bits .and .u64 (A.shr n 1) 6148914691236517205) (A.bits .and .u64 n 6148914691236517205)) 3689348814741910323))) 1085102592571150095) (A.shr (A.bits .and .u64 (A.add (A.shr (A.add (A.bits .and .u64 (A.shr (A.add (A.bits .and .u64 (A.shr n 1) 6148914691236517205) (A.bits .and .u64 n 6148914691236517205)) 2) 3689348814741910323) (A.bits .and .u64 (A.add (A.bits .and .u64 (A.shr n 1) 6148914691236517205) (A.bits .and .u64 n 6148914691236517205)) 3689348814741910323)) 4) (A.add (A.bits .and .u64 (A.shr (A.add (A.bits .and .u64 (A.shr n 1) 6148914691236517205) (A.bits .and .u64 n 6148914691236517205)) 2) 3689348814741910323) (A.bits .and .u64 (A.add (A.bits .and .u64 (A.shr n 1) 6148914691236517205) (A.bits .and .u64 n 6148914691236517205)) 3689348814741910323))) 1085102592571150095) 8)) 16)) (A.shr (A.add (A.add (A.bits .and .u64 (A.add (A.shr (A.add (A.bits .and .u64 (A.shr (A.add (A.bits .and .u64 (A.shr n 1) 6148914691236517205) (A.bits .and .u64 n 6148914691236517205)) 2) 3689348814741910323) (A.bits .and .u64 (A.add (A.bits .and .u64 (A.shr n 1) 6148914691236517205) (A.bits .and .u64 n 6148914691236517205)) 3689348814741910323)) 4) (A.add (A.bits .and .u64 (A.shr (A.add (A.bits .and .u64 (A.shr n 1) 6148914691236517205) (A.bits .and .u64 n 6148914691236517205)) 2) 3689348814741910323) (A.bits .and .u64 (A.add (A.bits .and .u64 (A.shr n 1) 6148914691236517205) (A.bits .and .u64 n 6148914691236517205)) 3689348814741910323))) 1085102592571150095) (A.shr (A.bits .and .u64 (A.add (A.shr (A.add (A.bits .and .u64 (A.shr (A.add (A.bits .and .u64 (A.shr n 1) 6148914691236517205) (A.bits .and .u64 n 6148914691236517205)) 2) 3689348814741910323) (A.bits .and .u64 (A.add (A.bits .and .u64 (A.shr n 1) 6148914691236517205) (A.bits .and .u64 n 6148914691236517205)) 3689348814741910323)) 4) (A.add (A.bits .and .u64 (A.shr (A.add (A.bits .and .u64 (A.shr n 1) 6148914691236517205) (A.bits .and .u64 n 6148914691236517205)) 2) 3689348814741910323) (A.bits .and .u64 (A.add (A.bits .and .u64 (A.shr n 1) 6148914691236517205) (A.bits .and .u64 n 6148914691236517205)) 3689348814741910323))) 1085102592571150095) 8)) (A.shr (A.add (A.bits .and .u64 (A.add (A.shr (A.add (A.bits .and .u64 (A.shr (A.add (A.bits .and .u64 (A.shr n 1) 6148914691236517205) (A.bits .and .u64 n 6148914691236517205)) 2) 3689348814741910323) (A.bits .and .u64 (A.add (A.bits .and .u64 (A.shr n 1) 6148914691236517205) (A.bits .and .u64 n 6148914691236517205)) 3689348814741910323)) 4) (A.add (A.bits .and .u64 (A.shr (A.add (A.bits .and .u64 (A.shr n 1) 6148914691236517205) (A.bits .and .u64 n 6148914691236517205)) 2) 3689348814741910323) (A.bits .and .u64 (A.add (A.bits .and .u64 (A.shr n 1) 6148914691236517205) (A.bits .and .u64 n 6148914691236517205)) 3689348814741910323))) 1085102592571150095) (A.shr (A.bits .and .u64 (A.add (A.shr (A.add (A.bits .and .u64 (A.shr (A.add (A.bits .and .u64 (A.shr n 1) 6148914691236517205) (A.bits .and .u64 n 6148914691236517205)) 2) 3689348814741910323) (A.bits .and .u64 (A.add (A.bits .and .u64 (A.shr n 1) 6148914691236517205) (A.bits .and .u64 n 6148914691236517205)) 3689348814741910323)) 4) (A.add (A.bits .and .u64 (A.shr (A.add (A.bits .and .u64 (A.shr n 1) 6148914691236517205) (A.bits .and .u64 n 6148914691236517205)) 2) 3689348814741910323) (A.bits .and .u64 (A.add (A.bits .and .u64 (A.shr n 1) 6148914691236517205) (A.bits .and .u64 n 6148914691236517205)) 3689348814741910323))) 1085102592571150095) 8)) 16)) 32)) 127
theorem Zs2:(List.range 256).all (fun a=>(obI std (a:Int)).all (fun b=>b)&&decide (0≤pcS std (a:Int)∧pcS std (a:Int)≤8))=true:=by kernel_rfl
@[irreducible] def pcI (n:Int):Int:=pcS std n
theorem ZwN(n:Int)(h:0≤n∧n≤255):ZaK Tryz.prog 65 [.int .u64 n] (.int .i64 (pcI n)) none:=by
 obtain⟨k,rfl⟩:=Int.eq_ofNat_of_zero_le h.1
 have c:=List.all_eq_true.1 Zs2 k (List.mem_range.2 (by omega))
 rw[Bool.and_eq_true]at c
 refine start (ZvH _) fun C hC=>tgo hC Zoo ZHK ?_
 unfold pcI
 simp only[ZCk,ZCV]
 exact⟨Zqp c.1,rfl,trivial⟩
theorem ZHR{n:Int}(h:0≤n∧n≤255):0≤pcI n∧pcI n≤8:=by
 obtain⟨k,rfl⟩:=Int.eq_ofNat_of_zero_le h.1
 have c:=List.all_eq_true.1 Zs2 k (List.mem_range.2 (by omega))
 rw[Bool.and_eq_true]at c
 unfold pcI
 exact of_decide_eq_true c.2
theorem Zqk{mk:zI}{le er ve fy sl:Int}(h:ruE mk le er ve fy sl=0):mkE mk=0∧Zaf le 1 200=true∧Zaf er 0 32=true∧Zaf ve 1 5=true∧Zaf fy 0 5=true∧Zaf sl 0 3=true∧2*er<mk.length∧mk.length+sl<le:=by
 unfold ruE at h
 split at h
 ·contradiction
 ·rename_i h0
  split at h
  ·rename_i h1
   split at h
   ·cases h
   ·split at h
    ·cases h
    ·exact⟨by simpa using h0,h1.1,h1.2.1,h1.2.2.1,h1.2.2.2.1,h1.2.2.2.2,by omega,by omega⟩
  ·cases h
theorem Ztm(mk:zI)(le er ve fy sl:Int)(h:ruE mk le er ve fy sl=0):ZaK Tryz.prog 66 [.agg (.gen [.list (.ints .i64 mk), .int .i64 le, .int .i64 er, .int .i64 ve, .int .i64 fy, .int .i64 sl])] (.int .i64 0) none:=by
 obtain⟨h0,h1,h2,h3,h4,h5,h6,h7⟩:=Zqk h
 have hk:=ZiD h0
 have q2:=of_decide_eq_true h2
 have q5:=of_decide_eq_true h5
 refine start (ZEn mk le er ve fy sl) fun C hC=>tgo hC ZuO ZM8 ?_
 simp[ZIh,h0,h1,h2,h3,h4,h5,h6,h7,Zae,Zaj,AV.bx,Zad,show mk.length≤1000000 by omega]
 omega
def wA(so:zI):Nat→zI→Int
 |_,[]=>0
 |a,b::l=>(if hdI (so.getD a 0)=b then 0 else 1)+wA so (a+1) l
def wB(so:zI):Nat→zI→Int
 |_,[]=>0
 |a,b::l=>(if hdI (so.getD a 0)=1-b then 0 else 1)+wB so (a+1) l
def wrB(mk so:zI)(a:Int):Bool:=Zas mk&&(decide (mk.length≤1000)&&(decide (so.length≤1000000)&&decide (0≤a∧a+mk.length≤so.length)))
theorem ZMZ{mk so:zI}{a:Int}(h:wrB mk so a=true):Zas mk=true∧mk.length≤1000∧so.length≤1000000∧0≤a∧a+mk.length≤so.length:=by
 unfold wrB at h
 simp only[Bool.and_eq_true,decide_eq_true_eq]at h
 exact⟨h.1,h.2.1,h.2.2.1,h.2.2.2⟩
theorem W69{C:Ctx}(hC:C.P=Tryz.prog)(mk so:zI)(a:Nat)(hb:Zas mk=true)(h1:mk.length≤1000)(h2:so.length≤1000000)(h3:a+mk.length≤so.length):∀(k i:Nat) (x y:Int),i+k=mk.length→0≤x→x≤i→0≤y→y≤i→
 Ev C (Zj9 mk so a mk.length i [x,y]) (Zgr mk so a mk.length i [x,y]) (ZaD 69 (.agg (.ints .i64 [x+wA so (a+i) (mk.drop i),y+wB so (a+i) (mk.drop i)])) none):=by
 intro k
 induction k with
 |zero=>
  intro i x y hi _ _ _ _
  rw[List.drop_of_length_le (by omega),wA,wB,Int.add_zero,Int.add_zero]
  refine tgo hC ZuO ZlN ?_
  simp[Zdd,show ¬(i:Int)<mk.length by omega]
 |succ k ih=>
  intro i x y hi hx0 hx1 hy0 hy1
  have hlt:i<mk.length:=by omega
  have hlt2:(i:Int)<mk.length:=by omega
  have hbi:=ZbG hb i
  have t1:(a:Int)+(i:Int)=((a+i:Nat):Int):=by omega
  have hs:a+i<so.length:=by omega
  rw[ZdE hlt,wA,wB,←Int.add_assoc,←Int.add_assoc]
  have n:=ih (i+1)
  have e3:¬mk.getD i 0=1-mk.getD i 0:=by omega
  have e4:¬1-mk.getD i 0=mk.getD i 0:=by omega
  refine tgo hC ZuO ZlN ?_
  by_cases e1:hdI (so.getD (a+i) 0)=mk.getD i 0
  ·by_cases e2:hdI (so.getD (a+i) 0)=1-mk.getD i 0
   ·have i0:=n x y (by omega) (by omega) (by omega) (by omega) (by omega)
    omega
   ·have i0:=n x (y+1) (by omega) (by omega) (by omega) (by omega) (by omega)
    rw[if_pos e1,if_neg e2,Int.add_zero]
    simp only[Zdd,Zho,ZaT,t1,Int.toNat_natCast,Zba]
    simp[-List.getD_eq_getElem?_getD,hlt,hlt2,hs,e1,e2,e3,e4,List.getD_cons_zero,List.getD_cons_succ,←Nat.add_assoc]at i0⊢
    exact⟨by omega,by omega,by omega,i0⟩
  ·by_cases e2:hdI (so.getD (a+i) 0)=1-mk.getD i 0
   ·have i0:=n (x+1) y (by omega) (by omega) (by omega) (by omega) (by omega)
    rw[if_neg e1,if_pos e2,Int.add_zero]
    simp only[Zdd,Zho,ZaT,t1,Int.toNat_natCast,Zba]
    simp[-List.getD_eq_getElem?_getD,hlt,hlt2,hs,e1,e2,e3,e4,List.getD_cons_zero,List.getD_cons_succ,←Nat.add_assoc]at i0⊢
    exact⟨by omega,by omega,by omega,i0⟩
   ·have i0:=n (x+1) (y+1) (by omega) (by omega) (by omega) (by omega) (by omega)
    rw[if_neg e1,if_neg e2]
    simp only[Zdd,Zho,ZaT,t1,Int.toNat_natCast,Zba]
    simp[-List.getD_eq_getElem?_getD,hlt,hlt2,hs,e1,e2,e3,e4,List.getD_cons_zero,List.getD_cons_succ,←Nat.add_assoc]at i0⊢
    exact⟨by omega,by omega,by omega,i0⟩
theorem Ztw(mk so:zI)(a:Int)(h:wrB mk so a=true):ZaK Tryz.prog 69 [.list (.ints .i64 mk), .list (.ints .i64 so), .int .i64 a] (.agg (.ints .i64 [wA so a.toNat mk,wB so a.toNat mk])) none:=by
 obtain⟨h1,h2,h3,h4,h5⟩:=ZMZ h
 obtain⟨n,rfl⟩:=Int.eq_ofNat_of_zero_le h4
 refine start (ZEk mk so n) fun C hC=>tgo hC ZuO ZMA ?_
 have i:=W69 hC mk so n h1 h2 h3 (by omega) mk.length 0 0 0 (by omega) (by omega) (by omega) (by omega) (by omega)
 simp[ZFi]at i⊢
 exact i
def k65s:Ctr:=⟨65,0,fun _ a=>match a with |[.int .u64 n]=>some (decide (0≤n∧n≤255), .int .i64 (pcI n),none) |_=>none⟩
theorem ZBk:k65s.OK Tryz.prog:=fun pa args r fr h=>by
 simp only[k65s]at h
 split at h
 ·simp only[Option.some.injEq,Prod.mk.injEq,decide_eq_true_eq]at h
  obtain⟨h0,rfl,rfl⟩:=h
  exact ZwN _ h0
 ·cases h
def k66s:Ctr:=⟨66,0,fun _ a=>match a with |[.agg (.gen [.list (.ints .i64 mk), .int .i64 le, .int .i64 er, .int .i64 ve, .int .i64 fy, .int .i64 sl])]=>some (decide (ruE mk le er ve fy sl=0), .int .i64 0,none) |_=>none⟩
theorem ZDi:k66s.OK Tryz.prog:=fun pa args r fr h=>by
 simp only[k66s]at h
 split at h
 ·simp only[Option.some.injEq,Prod.mk.injEq,decide_eq_true_eq]at h
  obtain⟨h0,rfl,rfl⟩:=h
  exact Ztm _ _ _ _ _ _ h0
 ·cases h
def k69s:Ctr:=⟨69,0,fun _ a=>match a with |[.list (.ints .i64 mk), .list (.ints .i64 so), .int .i64 a]=>some (decide (wrB mk so a=true), .agg (.ints .i64 [wA so a.toNat mk,wB so a.toNat mk]),none) |_=>none⟩
theorem ZAW:k69s.OK Tryz.prog:=fun pa args r fr h=>by
 simp only[k69s]at h
 split at h
 ·simp only[Option.some.injEq,Prod.mk.injEq,decide_eq_true_eq]at h
  obtain⟨h0,rfl,rfl⟩:=h
  exact Ztw _ _ _ h0
 ·cases h
def Vc:List Ctr:=[k65s,k66s,k69s]++Vb
theorem Zzu:Zar Tryz.prog Vc:=⟨ZBk,⟨ZDi,⟨ZAW,ZuO⟩⟩⟩
end Go.Proofs.YtjhldefnjghcdaaGreat
namespace Go.Proofs.YtjhldefnjghcdaaGreat
set_option maxRecDepth 100000
set_option linter.unusedVariables false
def ZKE(g t s:Int)(l:zI):AFrame:=vF 14 42 [(0,AV.agg (Row.gen [.int .i64 g, .int .i64 t, .int .i64 s])),vL 1 l] [.code a14.code] [.tmp 4,.tmp 5]
def ZQe(g t s:Int)(l:zI):List AFrame:=[(ZKE g t s l)]
theorem ZDM(g t s:Int)(l:zI):Zak tab 14 [AV.agg (Row.gen [.int .i64 g, .int .i64 t, .int .i64 s]),AV.list (.ints .i64 l)]=some (ZKE g t s l):=rfl
def ZkV(g t s n0 n1 n2:Int)(l3:zI):List AFrame:=[vF 14 42 [vP 6 14007,vR 8 14025,vI 26 n0,vI 27 n1] (vC ZHQ ZLt) [.tmp 4,.tmp 5]]
def Zh7(g t s n0 n1 n2:Int)(l3:zI):Zaa:=[(14007,{ base:=0,blks:=[Blk.row 81 4 (Row.gen [AV.agg (Row.gen [AV.int .i64 g,AV.int .i64 t,AV.int .i64 s,AV.int .i64 n2])])] }),vK 14025 l3]
abbrev Zgx(g t s n0 n1 n2:Int)(l3:zI):List AFrame×Zaa:=(ZkV g t s n0 n1 n2 l3,Zh7 g t s n0 n1 n2 l3)
def ZID(A:Ar)(K:KT)(F:FT)(g t s:Int)(l:zI):Prop:=rB [decide (List.length [0,sfF l]≤1000000),List.all [AV.int .i64 0,AV.int .i64 (sfF l)] fun x=>AV.bx x&&Nat.beq (Zad A x) 1,decide (List.length l≤1000000),decide (rdE g t s=0)] (bB (A.not (A.eq (Zaj [0,sfF l]) 0)) (F (AV.tup [AV.nils,AV.int .i64 (Zaj [0,sfF l])]) none) (rB [decide (List.length l≤1000000)] (K (Zgx g t s (A.int (A.len l)) 0 s l))))
theorem ZNh{A:Ar}{K:KT}{F:FT}{M:MT}{g t s:Int}{l:zI} :Zah A tab Vc 14 K F M (.run 32 (.tf (.run 7 (.fn)) (.run 17 (.hd)))) (ZQe g t s l) []=ZID A K F g t s l:=by kernel_rfl
def ZeH(A:Ar)(K:KT)(F:FT)(g t s n0 n1 n2:Int)(l3:zI):Prop:=let u4:=A.bits .and .i64 n2 t;let u5:=A.sub g 1;let u0:=A.shl (A.bits .and .i64 (pcI u4) 1) u5;let u1:=A.nat n1;let u2:=A.bits .or .i64 (A.shr n2 1) u0;let u3:=A.add n1 1;let u6:=A.len l3;let u7:=A.neg (A.nth l3 u1);bB (A.lt n1 n0) (rB [Zac (Zac (A.le 0 u5) (Nat.blt (A.nat u5) 64)) (A.inR .i64 u0),A.inR .i64 u5,Zac (A.le 0 1) (Nat.blt (A.nat 1) 64),decide (0≤A.bits .and .i64 n2 t∧A.bits .and .i64 n2 t≤255),A.inR .u64 u4] (bB (A.eq (A.bits .and .i64 n2 1) 1) (rB [A.inR .i64 u3,Zac (Nat.blt u1 u6) true,Zac (A.le 0 n1) (Nat.blt u1 u6),A.inR .i64 u7,Zac (Nat.blt u1 u6) true,Zac (A.le 0 n1) (Nat.blt u1 u6)] (K (Zgx g t s n0 u3 u2 (A.set l3 u1 u7)))) (rB [A.inR .i64 u3] (K (Zgx g t s n0 u3 u2 l3))))) (F (AV.tup [AV.row 0 0,AV.int .i64 0]) (some { e:=3,sz:=1,r:=.ints .i64 l3 }))
theorem Zmn{A:Ar}{K:KT}{F:FT}{M:MT}{g t s n0 n1 n2:Int}{l3:zI} :Zah A tab Vc 14 K F M (.run 6 (.tf (.run 39 (.tf (.run 18 (.hd)) (.run 8 (.hd)))) (.run 8 (.fn)))) (ZkV g t s n0 n1 n2 l3) (Zh7 g t s n0 n1 n2 l3)=ZeH A K F g t s n0 n1 n2 l3:=by kernel_rfl
end Go.Proofs.YtjhldefnjghcdaaGreat
namespace Go.Proofs.YtjhldefnjghcdaaGreat
theorem Zuq{r k:Nat}(hr:r<2^32)(hk:k<2^32):std.bits .and .i64 (r:Int) (k:Int)=((r &&& k:Nat):Int):=by
 show IntKind.i64.wrap ((BitVec.ofInt 64 (r:Int) &&& BitVec.ofInt 64 (k:Int)).toNat:Int)=_
 rw[BitVec.toNat_and,Zhb r hr,Zhb k hk]
 have:r &&& k≤r:=Nat.and_le_left
 rw[IntKind.wrap_i64]
 omega
def rgB(g r b:Int):Int:=std.bits .or .i64 (std.shr r 1) (std.shl b (g-1))
def rgN(g t r:Int):Int:=rgB g r (std.bits .and .i64 (pcI (std.bits .and .i64 r t)) 1)
theorem ZH2:(List.range 9).all (fun g=>(List.range 256).all fun r=>(List.range 2).all fun b=>decide (1≤g→(r:Int)≤mxG (g:Int)→0≤rgB (g:Int) (r:Int) (b:Int)∧rgB (g:Int) (r:Int) (b:Int)≤mxG (g:Int)∧0≤std.shl (b:Int) ((g:Int)-1)∧std.shl (b:Int) ((g:Int)-1)≤1000))=true:=by kernel_rfl
theorem ZMW{g t r:Int}(hg:1≤g∧g≤8)(hr:0≤r∧r≤mxG g)(ht:0≤t∧t≤mxG g):0≤rgN g t r∧rgN g t r≤mxG g∧0≤std.bits .and .i64 r t∧std.bits .and .i64 r t≤255∧0≤std.shl (std.bits .and .i64 (pcI (std.bits .and .i64 r t)) 1) (g-1)∧std.shl (std.bits .and .i64 (pcI (std.bits .and .i64 r t)) 1) (g-1)≤1000:=by
 obtain⟨m1,m2,_⟩:=Zr8 hg
 obtain⟨G,rfl⟩:=Int.eq_ofNat_of_zero_le (show 0≤g by omega)
 obtain⟨R,rfl⟩:=Int.eq_ofNat_of_zero_le hr.1
 obtain⟨T,rfl⟩:=Int.eq_ofNat_of_zero_le ht.1
 have ha:=Zuq (r:=R) (k:=T) (by omega) (by omega)
 have hle:R &&& T≤R:=Nat.and_le_left
 have hp:=ZHR (n:=((R &&& T:Nat):Int)) ⟨by omega,by omega⟩
 obtain⟨P,hP⟩:=Int.eq_ofNat_of_zero_le hp.1
 have hb:=Zpu (r:=P) (by omega)
 have c:=List.all_eq_true.1 (List.all_eq_true.1 (List.all_eq_true.1 ZH2 G (List.mem_range.2 (by omega))) R (List.mem_range.2 (by omega))) (P%2) (List.mem_range.2 (by omega))
 have c:=of_decide_eq_true c (by omega) hr.2
 unfold rgN
 rw[ha,hP,hb]
 exact⟨c.1,c.2.1,by omega,by omega,c.2.2.1,c.2.2.2⟩
def flL(g t:Int):Int→zI→zI
 |_,[]=>[]
 |r,x::l=>(if std.bits .and .i64 r 1=1 then -x else x)::flL g t (rgN g t r) l
theorem ZpB(g t:Int):∀(l:zI) (r:Int),(flL g t r l).length=l.length
 |[],_=>rfl
 |x::l,r=>by rw[flL,List.length_cons,ZpB g t l,List.length_cons]
theorem ZKF(a:zI)(x:Int)(l:zI):(a++x::l).getD a.length 0=x:=by
 rw[Zof,if_neg (by omega),Nat.sub_self];rfl
theorem ZBs(a:zI)(x y:Int)(l:zI):(a++x::l).set a.length y=a++y::l:=by
 rw[List.set_append_right _ _ (Nat.le_refl _),Nat.sub_self,List.set_cons_zero]
theorem R14{C:Ctx}(hC:C.P=Tryz.prog)(g t s:Int)(hg:1≤g∧g≤8)(ht:0≤t∧t≤mxG g)(N:Int):∀(l a:zI) (r:Int),N=((a.length+l.length:Nat):Int)→N≤600→(∀x∈l, -7≤x∧x≤7)→0≤r∧r≤mxG g→
 Ev C (ZkV g t s N a.length r (a++l)) (Zh7 g t s N a.length r (a++l)) (Zk2 14 (.tup [.list (.ints .i64 (a++flL g t r l)), .int .i64 0]))
 |[],a,r,hN,_,_,_=>by
  rw[flL,List.append_nil]
  refine Zfo hC Zzu Zmn ?_
  simp at hN
  simp[ZeH,hN]
  exact⟨_, .same _, .tup ⟨.row _ rfl rfl rfl, .same _ rfl rfl,trivial⟩,rfl⟩
 |x::l,a,r,hN,h6,hx,hr=>by
  rw[List.length_cons]at hN
  obtain⟨r1,r2,r3,r4,r5,r6⟩:=ZMW hg hr ht
  have i:=fun y=>R14 hC g t s hg ht N l (a++[y]) (rgN g t r) (by rw[List.length_append,List.length_singleton,hN];omega) h6 (fun z hz=>hx z (List.mem_cons_of_mem _ hz)) ⟨r1,r2⟩
  have hx0:=hx x List.mem_cons_self
  have g1:=ZKF a x l
  have g2:=ZBs a x (-x) l
  have hlt:(a.length:Int)<N:=by omega
  have hc:std.bits .or .i64 (std.shr r 1) (std.shl (std.bits .and .i64 (pcI (std.bits .and .i64 r t)) 1) (g-1))=rgN g t r:=rfl
  rw[flL]
  refine Zfo hC Zzu Zmn ?_
  by_cases hb:std.bits .and .i64 r 1=1
  ·have i0:=i (-x)
   rw[if_pos hb]
   simp only[ZeH,Zk8,Zba,ZaT,ZuB,Int.toNat_natCast,g1,hc,hb]
   generalize std.shl (std.bits .and .i64 (pcI (std.bits .and .i64 r t)) 1) (g-1)=S at r5 r6⊢
   generalize std.bits .and .i64 r t=W at r3 r4⊢
   have hu:std.inR Go.IntKind.u64 W=true:=decide_eq_true ⟨by show(0:Int)≤W;omega,by show W≤18446744073709551615;omega⟩
   simp[-List.getD_eq_getElem?_getD,hlt,g2,hu]at i0⊢
   refine⟨by omega,?_,i0⟩
   omega
  ·have i0:=i x
   rw[if_neg hb]
   simp only[ZeH,Zk8,Zba,ZaT,ZuB,Int.toNat_natCast,g1,hc]
   generalize std.shl (std.bits .and .i64 (pcI (std.bits .and .i64 r t)) 1) (g-1)=S at r5 r6⊢
   generalize std.bits .and .i64 r t=W at r3 r4⊢
   have hu:std.inR Go.IntKind.u64 W=true:=decide_eq_true ⟨by show(0:Int)≤W;omega,by show W≤18446744073709551615;omega⟩
   simp[-List.getD_eq_getElem?_getD,hlt,hb,hu]at i0⊢
   refine⟨by omega,?_,i0⟩
   omega
theorem ZvF(g t s:Int)(l:zI)(h:rdE g t s=0)(hl:sfF l=0):ZaK Tryz.prog 14 [.agg (.gen [.int .i64 g, .int .i64 t, .int .i64 s]), .list (.ints .i64 l)] (.tup [.list (.ints .i64 (flL g t s l)), .int .i64 0]) Zk4:=by
 obtain⟨h1,h2,h3,_⟩:=ZIB h
 have q1:=of_decide_eq_true h1
 have q2:=of_decide_eq_true h2
 have q3:=of_decide_eq_true h3
 have e:=hl
 unfold sfF at e
 by_cases h6:600<l.length
 ·rw[if_pos h6]at e;cases e
 rw[if_neg h6]at e
 have hx:∀x∈l, -7≤x∧x≤7:=fun x hx=>by
  obtain⟨j,hj,rfl⟩:=List.mem_iff_getElem.1 hx
  have:=Znk e (by omega) j
  rwa[List.getD_eq_getElem?_getD,List.getElem?_eq_getElem hj]at this
 refine ZpE (ZDM g t s l) fun C hC=>Zfo hC Zzu ZNh ?_
 have i:=R14 hC g t s q1 ⟨by omega,q2.2⟩ l.length l [] s (by simp) (by omega) hx ⟨by omega,q3.2⟩
 simp[ZID,h,hl,Zaj,AV.bx,Zad,show l.length≤1000000 by omega]at i⊢
 exact i
def k14s:Ctr:=⟨14,0,fun _ a=>match a with |[.agg (.gen [.int .i64 g, .int .i64 t, .int .i64 s]), .list (.ints .i64 l)]=>some (decide (rdE g t s=0∧sfF l=0), .tup [.list (.ints .i64 (flL g t s l)), .int .i64 0],Zk4) |_=>none⟩
theorem ZCF:k14s.OK Tryz.prog:=fun pa args r fr h=>by
 simp only[k14s]at h
 split at h
 ·simp only[Option.some.injEq,Prod.mk.injEq,decide_eq_true_eq]at h
  obtain⟨h0,rfl,rfl⟩:=h
  exact ZvF _ _ _ _ h0.1 h0.2
 ·cases h
def Vd:List Ctr:=[k14s]++Vc
theorem Ztz:Zar Tryz.prog Vd:=⟨ZCF,Zzu⟩
end Go.Proofs.YtjhldefnjghcdaaGreat
namespace Go.Proofs.YtjhldefnjghcdaaGreat
set_option maxRecDepth 100000
set_option linter.unusedVariables false
def ZHU(mk:zI)(le er ve fy sl:Int)(so:zI):AFrame:=vF 18 20 [(0,AV.agg (Row.gen [.list (.ints .i64 mk), .int .i64 le, .int .i64 er, .int .i64 ve, .int .i64 fy, .int .i64 sl])),vL 1 so] [.code a18.code] [.tmp 4,.tmp 5]
def ZQs(mk:zI)(le er ve fy sl:Int)(so:zI):List AFrame:=[(ZHU mk le er ve fy sl so)]
theorem ZCY(mk:zI)(le er ve fy sl:Int)(so:zI):Zak tab 18 [AV.agg (Row.gen [.list (.ints .i64 mk), .int .i64 le, .int .i64 er, .int .i64 ve, .int .i64 fy, .int .i64 sl]),AV.list (.ints .i64 so)]=some (ZHU mk le er ve fy sl so):=rfl
def v23Q:List AItem:=[.inReg [oN 4 (.ncall true 43005 67 [.c AV.nils,.t 3]),mV 2 4], .code ACode.ret]
def v20Q:List AItem:=[.inReg [oN 19 (.ncall true 18020 43 [.t 18]),mV 4 19,oN 5 (.mov (cI 0))], .code ACode.ret]
def v17Q:List AItem:=[.inRF 67901 1,.inBlock 0, .code (.seq (.reg none [oN 12 (.load false 1 (.t 2)),mV 4 12]) ACode.ret)]
def ZkN(mk:zI)(le er ve fy sl:Int)(so:zI)(b0:Bool)(n1:Int):List AFrame:=[vF 68 66 [(0,AV.yld 67901 1),vP 2 44003,vI 4 n1] (vC ZyI ZAN) [],{ fn:=67,N:=13,env:=[(0,AV.nils),(1,AV.fn 68 [AV.ptr 44004 0 0 0,AV.ptr 44003 0 0 0]),vP 2 67003,(4,AV.nils),(6,AV.fn 68 [AV.ptr 44004 0 0 0,AV.ptr 44003 0 0 0])],todo:=v17Q,defs:=[(67901,0)],rnd:=none,ret:=false,res:=[.tmp 4] },vF 43 5 [(0,AV.fn 68 [AV.ptr 44004 0 0 0,AV.ptr 44003 0 0 0]),(2,AV.nils),(3,AV.fn 68 [AV.ptr 44004 0 0 0,AV.ptr 44003 0 0 0])] v23Q [.tmp 2],vF 18 20 [vP 6 42020,vI 7 0,vI 14 0,vB 15 b0,vP 17 42020,(18,AV.fn 68 [AV.ptr 44004 0 0 0,AV.ptr 44003 0 0 0])] v20Q [.tmp 4,.tmp 5]]
def ZhL(mk:zI)(le er ve fy sl:Int)(so:zI)(b0:Bool)(n1:Int):Zaa:=[(42020,{ base:=0,blks:=[Blk.row 94 13 (Row.gen [AV.agg (Row.gen [AV.list (.ints .i64 mk),AV.int .i64 le,AV.int .i64 er,AV.int .i64 ve,AV.int .i64 fy,AV.int .i64 sl,AV.list (.ints .i64 so),AV.nils,AV.int .i64 0,AV.int .i64 0,AV.int .i64 0,AV.int .i64 0,AV.bool false])])] }),(44003,{ base:=0,blks:=[Blk.row 87 1 (Row.gen [.ptr 42020 0 0 0])] }),vG 44004 (.int .i64 0),(67003,{ base:=0,blks:=[Blk.row 47 1 (Row.gen [AV.nils])] }),(67901,{ base:=0,blks:=[Blk.dfr,Blk.lp { st:=RSt.ready,fn:=67,N:=13,env:=[(0,AV.nils),(1,AV.fn 68 [AV.ptr 44004 0 0 0,AV.ptr 44003 0 0 0]),vP 2 67003,(4,AV.nils),(6,AV.fn 68 [AV.ptr 44004 0 0 0,AV.ptr 44003 0 0 0])],params:=[7],asg:=ACode.reg none [oN 5 (.alloc 67006 52 (AV.agg (Row.gen [.int .i64 0, .int .i64 0, .bool false, .int .i64 0, .int .i64 0]))),{ d:=none,g:=none,k:=OpK.store 5 (.t 5) (.t 7) }],body:=ACode.block 1 (.reg none [oN 8 (.load false 1 (.t 2)),oN 9 (.load true 5 (.t 5)),oN 10 (.bslice 67011 52 5 [.t 9]),oN 11 (.append 67012 52 5 (.t 8) (.t 10)),{ d:=none,g:=none,k:=OpK.store 1 (.t 2) (.t 11) }]) }] })]
abbrev Zh1(mk:zI)(le er ve fy sl:Int)(so:zI)(b0:Bool)(n1:Int):List AFrame×Zaa:=(ZkN mk le er ve fy sl so b0 n1,ZhL mk le er ve fy sl so b0 n1)
def Zjt(mk:zI)(le er ve fy sl:Int)(so:zI)(b0:Bool)(n2:Int)(x3:List AV):List AFrame:=[vF 68 66 [(0,AV.yld 67901 1),vP 2 44003,vI 4 n2] (vC ZyI ZAN) [],{ fn:=67,N:=13,env:=[(0,AV.nils),(1,AV.fn 68 [AV.ptr 44004 0 0 0,AV.ptr 44003 0 0 0]),vP 2 67003,(4,AV.nils),(6,AV.fn 68 [AV.ptr 44004 0 0 0,AV.ptr 44003 0 0 0])],todo:=v17Q,defs:=[(67901,0)],rnd:=none,ret:=false,res:=[.tmp 4] },vF 43 5 [(0,AV.fn 68 [AV.ptr 44004 0 0 0,AV.ptr 44003 0 0 0]),(2,AV.nils),(3,AV.fn 68 [AV.ptr 44004 0 0 0,AV.ptr 44003 0 0 0])] v23Q [.tmp 2],vF 18 20 [vP 6 42020,vI 7 0,vI 14 0,vB 15 b0,vP 17 42020,(18,AV.fn 68 [AV.ptr 44004 0 0 0,AV.ptr 44003 0 0 0])] v20Q [.tmp 4,.tmp 5]]
def Zil(mk:zI)(le er ve fy sl:Int)(so:zI)(b0:Bool)(n2:Int)(x3:List AV):Zaa:=[(42020,{ base:=0,blks:=[Blk.row 94 13 (Row.gen [AV.agg (Row.gen [AV.list (.ints .i64 mk),AV.int .i64 le,AV.int .i64 er,AV.int .i64 ve,AV.int .i64 fy,AV.int .i64 sl,AV.list (.ints .i64 so),AV.nils,AV.int .i64 0,AV.int .i64 0,AV.int .i64 0,AV.int .i64 0,AV.bool false])])] }),(44003,{ base:=0,blks:=[Blk.row 87 1 (Row.gen [.ptr 42020 0 0 0])] }),vG 44004 (.int .i64 0),(67003,{ base:=0,blks:=[Blk.row 47 1 (Row.gen [.row 67012 0])] }),(67012,{ base:=0,blks:=[Blk.row 52 5 (Row.big (.agg [.int .i64, .int .i64, .bool, .int .i64, .int .i64]) x3)] }),(67901,{ base:=0,blks:=[Blk.dfr,Blk.lp { st:=RSt.ready,fn:=67,N:=13,env:=[(0,AV.nils),(1,AV.fn 68 [AV.ptr 44004 0 0 0,AV.ptr 44003 0 0 0]),vP 2 67003,(4,AV.nils),(6,AV.fn 68 [AV.ptr 44004 0 0 0,AV.ptr 44003 0 0 0])],params:=[7],asg:=ACode.reg none [oN 5 (.alloc 67006 52 (AV.agg (Row.gen [.int .i64 0, .int .i64 0, .bool false, .int .i64 0, .int .i64 0]))),{ d:=none,g:=none,k:=OpK.store 5 (.t 5) (.t 7) }],body:=ACode.block 1 (.reg none [oN 8 (.load false 1 (.t 2)),oN 9 (.load true 5 (.t 5)),oN 10 (.bslice 67011 52 5 [.t 9]),oN 11 (.append 67012 52 5 (.t 8) (.t 10)),{ d:=none,g:=none,k:=OpK.store 1 (.t 2) (.t 11) }]) }] })]
abbrev Zcc(mk:zI)(le er ve fy sl:Int)(so:zI)(b0:Bool)(n2:Int)(x3:List AV):List AFrame×Zaa:=(Zjt mk le er ve fy sl so b0 n2 x3,Zil mk le er ve fy sl so b0 n2 x3)
def ZJB(A:Ar)(K:KT)(F:FT)(mk:zI)(le er ve fy sl:Int)(so:zI):Prop:=rB [decide (List.length [0,sfF so]≤1000000),List.all [AV.int .i64 0,AV.int .i64 (sfF so)] fun x=>AV.bx x&&Nat.beq (Zad A x) 1,decide (List.length so≤1000000),decide (ruE mk le er ve fy sl=0)] (bB (A.not (A.eq (Zaj [0,sfF so]) 0)) (rB [A.not (A.eq (Zaj [0,sfF so]) 0)] (F (AV.tup [AV.nils,AV.int .i64 (Zaj [0,sfF so])]) none)) (rB [!A.not (A.eq 0 0)] (K (Zh1 mk le er ve fy sl so (A.not (A.eq 0 0)) 0))))
theorem ZN7{A:Ar}{K:KT}{F:FT}{M:MT}{mk:zI}{le er ve fy sl:Int}{so:zI} :Zah A tab Vd 18 K F M (.run 34 (.tf (.run 21 (.ty (.run 7 (.fn)))) (.run 25 (.fy (.run 47 (.hd)))))) (ZQs mk le er ve fy sl so) []=ZJB A K F mk le er ve fy sl so:=by kernel_rfl
def ZcW(A:Ar)(K:KT)(F:FT)(mk:zI)(le er ve fy sl:Int)(so:zI)(b0:Bool)(n1:Int):Prop:=let u0:=A.len [wA so (Int.toNat n1) mk,wB so (Int.toNat n1) mk];let u1:=A.nth [wA so (Int.toNat n1) mk,wB so (Int.toNat n1) mk] (0+A.nat 1);let u2:=A.nth [wA so (Int.toNat n1) mk,wB so (Int.toNat n1) mk] (0+A.nat 0);let u3:=A.lenA [AV.agg (Row.gen [.int .i64 0, .int .i64 n1, .bool (A.eq 1 1), .int .i64 u1, .int .i64 0])];let u4:=A.lenA [AV.agg (Row.gen [.int .i64 0, .int .i64 n1, .bool (A.eq 0 1), .int .i64 u2, .int .i64 0])];let u6:=A.add n1 1;let u5:=rB [A.inR .i64 u6] (K (Zh1 mk le er ve fy sl so b0 u6));let u7:=A.add n1 (A.int (A.len mk));rB [A.inR .i64 u7] (bB (A.le u7 (A.int (A.len so))) (rB [Nat.blt 0 u0,Nat.beq u0 2,Nat.blt 0 (A.len [0,0]),decide (wrB mk so n1=true)] (bB (A.lt er (A.nth [wA so (Int.toNat n1) mk,wB so (Int.toNat n1) mk] 0)) (rB [Nat.blt (0+A.nat 1) u0,Zac (A.le 0 1) (A.lt 1 (A.int 2))] (qB [A.le u1 er,Nat.blt (0+A.nat 1) u0,Zac (A.le 0 1) (A.lt 1 (A.int 2))] (rB [Zac (Nat.ble u3 4294967296) (Nat.blt 0 u3),List.all [AV.agg (Row.gen [.int .i64 0, .int .i64 n1, .bool (A.eq 1 1), .int .i64 u1, .int .i64 0])] fun x=>AV.bx x&&Nat.beq (Zad A x) 5] (rB [!A.not true] (rB [A.inR .i64 u6] (K (Zcc mk le er ve fy sl so b0 u6 ([AV.agg (Row.gen [.int .i64 0, .int .i64 n1, .bool (A.eq 1 1), .int .i64 u1, .int .i64 0])])))))) (rB [!A.le u1 er,Nat.blt (0+A.nat 1) u0,Zac (A.le 0 1) (A.lt 1 (A.int 2))] u5))) (rB [Nat.blt (0+A.nat 0) u0,Zac (A.le 0 0) (A.lt 0 (A.int 2))] (qB [A.le u2 er,Nat.blt (0+A.nat 0) u0,Zac (A.le 0 0) (A.lt 0 (A.int 2))] (rB [Zac (Nat.ble u4 4294967296) (Nat.blt 0 u4),List.all [AV.agg (Row.gen [.int .i64 0, .int .i64 n1, .bool (A.eq 0 1), .int .i64 u2, .int .i64 0])] fun x=>AV.bx x&&Nat.beq (Zad A x) 5] (rB [!A.not true] (rB [A.inR .i64 u6] (K (Zcc mk le er ve fy sl so b0 u6 ([AV.agg (Row.gen [.int .i64 0, .int .i64 n1, .bool (A.eq 0 1), .int .i64 u2, .int .i64 0])])))))) (rB [!A.le u2 er,Nat.blt (0+A.nat 0) u0,Zac (A.le 0 0) (A.lt 0 (A.int 2))] u5))))) (F (AV.tup [AV.nils,AV.int .i64 0]) none))
theorem ZmG{A:Ar}{K:KT}{F:FT}{M:MT}{mk:zI}{le er ve fy sl:Int}{so:zI}{b0:Bool}{n1:Int} :Zah A tab Vd 18 K F M (.run 5 (.tf (.run 14 (.tf (.run 17 (.tf (.ty (.run 15 (.ty (.ty (.run 2 (.fy (.run 9 (.hd)))))))) (.fy (.fy (.fy (.run 2 (.fy (.run 9 (.hd))))))))) (.run 15 (.tf (.ty (.run 15 (.ty (.ty (.run 2 (.fy (.run 9 (.hd)))))))) (.fy (.fy (.fy (.run 2 (.fy (.run 9 (.hd))))))))))) (.run 21 (.fn)))) (ZkN mk le er ve fy sl so b0 n1) (ZhL mk le er ve fy sl so b0 n1)=ZcW A K F mk le er ve fy sl so b0 n1:=by kernel_rfl
def Zc8(A:Ar)(K:KT)(F:FT)(mk:zI)(le er ve fy sl:Int)(so:zI)(b0:Bool)(n2:Int)(x3:List AV):Prop:=let u0:=A.len [wA so (Int.toNat n2) mk,wB so (Int.toNat n2) mk];let u1:=A.nth [wA so (Int.toNat n2) mk,wB so (Int.toNat n2) mk] (0+A.nat 1);let u2:=A.nth [wA so (Int.toNat n2) mk,wB so (Int.toNat n2) mk] (0+A.nat 0);let u4:=A.add n2 1;let u3:=rB [A.inR .i64 u4] (K (Zcc mk le er ve fy sl so b0 u4 x3));let u5:=A.add n2 (A.int (A.len mk));rB [A.inR .i64 u5] (bB (A.le u5 (A.int (A.len so))) (rB [Nat.blt 0 u0,Nat.beq u0 2,Nat.blt 0 (A.len [0,0]),decide (wrB mk so n2=true)] (bB (A.lt er (A.nth [wA so (Int.toNat n2) mk,wB so (Int.toNat n2) mk] 0)) (rB [Nat.blt (0+A.nat 1) u0,Zac (A.le 0 1) (A.lt 1 (A.int 2))] (qB [A.le u1 er,Nat.blt (0+A.nat 1) u0,Zac (A.le 0 1) (A.lt 1 (A.int 2))] (rB [Nat.ble (A.lenA x3+A.lenA [AV.agg (Row.gen [.int .i64 0, .int .i64 n2, .bool (A.eq 1 1), .int .i64 u1, .int .i64 0])]) 4294967296,List.all [AV.agg (Row.gen [.int .i64 0, .int .i64 n2, .bool (A.eq 1 1), .int .i64 u1, .int .i64 0])] fun x=>AV.bx x&&Nat.beq (Zad A x) 5] (rB [!A.not true] (rB [A.inR .i64 u4] (K (Zcc mk le er ve fy sl so b0 u4 (A.appA x3 [AV.agg (Row.gen [.int .i64 0, .int .i64 n2, .bool (A.eq 1 1), .int .i64 u1, .int .i64 0])])))))) (rB [!A.le u1 er,Nat.blt (0+A.nat 1) u0,Zac (A.le 0 1) (A.lt 1 (A.int 2))] u3))) (rB [Nat.blt (0+A.nat 0) u0,Zac (A.le 0 0) (A.lt 0 (A.int 2))] (qB [A.le u2 er,Nat.blt (0+A.nat 0) u0,Zac (A.le 0 0) (A.lt 0 (A.int 2))] (rB [Nat.ble (A.lenA x3+A.lenA [AV.agg (Row.gen [.int .i64 0, .int .i64 n2, .bool (A.eq 0 1), .int .i64 u2, .int .i64 0])]) 4294967296,List.all [AV.agg (Row.gen [.int .i64 0, .int .i64 n2, .bool (A.eq 0 1), .int .i64 u2, .int .i64 0])] fun x=>AV.bx x&&Nat.beq (Zad A x) 5] (rB [!A.not true] (rB [A.inR .i64 u4] (K (Zcc mk le er ve fy sl so b0 u4 (A.appA x3 [AV.agg (Row.gen [.int .i64 0, .int .i64 n2, .bool (A.eq 0 1), .int .i64 u2, .int .i64 0])])))))) (rB [!A.le u2 er,Nat.blt (0+A.nat 0) u0,Zac (A.le 0 0) (A.lt 0 (A.int 2))] u3))))) (F (AV.tup [AV.row 0 0,AV.int .i64 0]) (some { e:=52,sz:=5,r:=Row.big (.agg [.int .i64, .int .i64, .bool, .int .i64, .int .i64]) x3 })))
theorem Zmx{A:Ar}{K:KT}{F:FT}{M:MT}{mk:zI}{le er ve fy sl:Int}{so:zI}{b0:Bool}{n2:Int}{x3:List AV} :Zah A tab Vd 18 K F M (.run 5 (.tf (.run 14 (.tf (.run 17 (.tf (.ty (.run 15 (.ty (.ty (.run 2 (.fy (.run 9 (.hd)))))))) (.fy (.fy (.fy (.run 2 (.fy (.run 9 (.hd))))))))) (.run 15 (.tf (.ty (.run 15 (.ty (.ty (.run 2 (.fy (.run 9 (.hd)))))))) (.fy (.fy (.fy (.run 2 (.fy (.run 9 (.hd))))))))))) (.run 21 (.fn)))) (Zjt mk le er ve fy sl so b0 n2 x3) (Zil mk le er ve fy sl so b0 n2 x3)=Zc8 A K F mk le er ve fy sl so b0 n2 x3:=by kernel_rfl
end Go.Proofs.YtjhldefnjghcdaaGreat
