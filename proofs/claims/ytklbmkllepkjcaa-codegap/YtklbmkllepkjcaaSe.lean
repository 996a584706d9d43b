/- Paths of functions, printed by the explorer (Gx). No condition. -/
import Derived.Test.YtklbmkllepkjcaaSb
import Derived.KernelRfl
namespace Go.Proofs.Ytklbmkllepkjcaa
set_option maxRecDepth 100000
set_option linter.unusedVariables false
def ZAh(m g0 g1:Int):AFrame:={ fn:=63,N:=15,env:=[(0,AV.agg (.ints .i64 [m,g0,g1]))],todo:=[.code a63.code],defs:=[],rnd:=none,ret:=false,res:=[ARes.tmp 2] }
def ZEK(m g0 g1:Int):List AFrame:=[(ZAh m g0 g1)]
theorem Zxg(m g0 g1:Int):Zat tab 63 [AV.agg (.ints .i64 [m,g0,g1])]=some (ZAh m g0 g1):=rfl
def Zum(A:Ar)(K:KT)(F:FT)(m g0 g1:Int):Prop:=rB [Nat.blt 0 (A.len [m,g0,g1]),Nat.blt 0 (A.len [m,g0,g1])] (bB (A.not (Zax (A.nth [m,g0,g1] 0) 1 3)) (F (AV.int .i64 2) (none)) (rB [Zaf (Zaf (Zaf (Nat.ble 3 (A.len [m,g0,g1])) true) true) (decide (List.length (A.sub3 [m,g0,g1] 1 2)≤1000000)),A.inR .i64 (A.sub (A.shl 1 (A.add (A.nth [m,g0,g1] 0) 1)) 1),Zaf (Zaf (A.le 0 (A.add (A.nth [m,g0,g1] 0) 1)) (Nat.blt (A.nat (A.add (A.nth [m,g0,g1] 0) 1)) 64)) (A.inR .i64 (A.shl 1 (A.add (A.nth [m,g0,g1] 0) 1))),A.inR .i64 (A.add (A.nth [m,g0,g1] 0) 1),Nat.blt 0 (A.len [m,g0,g1])] (F (AV.int .i64 (ZbB (A.sub3 [m,g0,g1] 1 2) 1 (A.sub (A.shl 1 (A.add (A.nth [m,g0,g1] 0) 1)) 1))) (none))))
theorem ZCZ{A:Ar}{K:KT}{F:FT}{M:MT}{m g0 g1:Int} :Zas A tab N2 63 K F M (.run 13 (.tf (.run 5 (.fn)) (.run 5 (.fn)))) (ZEK m g0 g1) []=Zum A K F m g0 g1:=by kernel_rfl
def Zzp(m g0 g1:Int):AFrame:={ fn:=28,N:=29,env:=[(0,AV.agg (.ints .i64 [m,g0,g1]))],todo:=[.code a28.code],defs:=[],rnd:=none,ret:=false,res:=[ARes.tmp 2] }
def ZF9(m g0 g1:Int):List AFrame:=[(Zzp m g0 g1)]
theorem Zwh(m g0 g1:Int):Zat tab 28 [AV.agg (.ints .i64 [m,g0,g1])]=some (Zzp m g0 g1):=rfl
def ZuX(A:Ar)(K:KT)(F:FT)(m g0 g1:Int):Prop:=rB [Nat.blt 0 (A.len [m,g0,g1])] (qB [A.not (Zax (A.nth [m,g0,g1] 0) 1 3),Nat.blt 0 (A.len [m,g0,g1])] (F (AV.int .i64 2) (none)) (qB [A.not (Zax (A.nth [m,g0,g1] 1) 1 (A.sub (A.shl 2 (A.nth [m,g0,g1] 0)) 1)),A.inR .i64 (A.sub (A.shl 2 (A.nth [m,g0,g1] 0)) 1),Zaf (Zaf (A.le 0 (A.nth [m,g0,g1] 0)) (Nat.blt (A.nat (A.nth [m,g0,g1] 0)) 64)) (A.inR .i64 (A.shl 2 (A.nth [m,g0,g1] 0))),Nat.blt 0 (A.len [m,g0,g1]),Nat.blt 1 (A.len [m,g0,g1]),!A.not (Zax (A.nth [m,g0,g1] 0) 1 3),Nat.blt 0 (A.len [m,g0,g1])] (F (AV.int .i64 2) (none)) (rB [A.inR .i64 (A.sub (A.shl 2 (A.nth [m,g0,g1] 0)) 1),Zaf (Zaf (A.le 0 (A.nth [m,g0,g1] 0)) (Nat.blt (A.nat (A.nth [m,g0,g1] 0)) 64)) (A.inR .i64 (A.shl 2 (A.nth [m,g0,g1] 0))),Nat.blt 0 (A.len [m,g0,g1]),Nat.blt 2 (A.len [m,g0,g1]),!A.not (Zax (A.nth [m,g0,g1] 1) 1 (A.sub (A.shl 2 (A.nth [m,g0,g1] 0)) 1)),A.inR .i64 (A.sub (A.shl 2 (A.nth [m,g0,g1] 0)) 1),Zaf (Zaf (A.le 0 (A.nth [m,g0,g1] 0)) (Nat.blt (A.nat (A.nth [m,g0,g1] 0)) 64)) (A.inR .i64 (A.shl 2 (A.nth [m,g0,g1] 0))),Nat.blt 0 (A.len [m,g0,g1]),Nat.blt 1 (A.len [m,g0,g1]),!A.not (Zax (A.nth [m,g0,g1] 0) 1 3),Nat.blt 0 (A.len [m,g0,g1])] (bB (A.not (Zax (A.nth [m,g0,g1] 2) 1 (A.sub (A.shl 2 (A.nth [m,g0,g1] 0)) 1))) (F (AV.int .i64 2) (none)) (F (AV.int .i64 0) (none))))))
theorem ZDn{A:Ar}{K:KT}{F:FT}{M:MT}{m g0 g1:Int} :Zas A tab N2 28 K F M (.run 7 (.alt [true,true] (.run 1 (.ty (.run 5 (.fn)))) (.alt [false,true] (.run 1 (.ty (.run 5 (.fn)))) (.alt [false,false] (.run 1 (.tf (.run 5 (.fn)) (.run 6 (.fn)))) (.no))))) (ZF9 m g0 g1) []=ZuX A K F m g0 g1:=by kernel_rfl
def ZzZ(m g0 g1:Int)(xs:List Int):AFrame:={ fn:=64,N:=30,env:=[(0,AV.agg (.ints .i64 [m,g0,g1])),(1,AV.list (.ints .i64 xs))],todo:=[.code a64.code],defs:=[],rnd:=none,ret:=false,res:=[ARes.tmp 4] }
def ZFs(m g0 g1:Int)(xs:List Int):List AFrame:=[(ZzZ m g0 g1 xs)]
theorem ZwE(m g0 g1:Int)(xs:List Int):Zat tab 64 [AV.agg (.ints .i64 [m,g0,g1]),AV.list (.ints .i64 xs)]=some (ZzZ m g0 g1 xs):=rfl
def Zzq(A:Ar)(K:KT)(F:FT)(m g0 g1:Int)(xs:List Int):Prop:=rB [Nat.blt 0 (A.len [m,g0,g1])] (qB [decide (List.length [Zap (A.le (Go.IntKind.wrap .i64 (A.mul 2 (A.nth [m,g0,g1] 0))) (A.int (A.len xs))) 10,Zap (A.le (A.int (A.len xs)) (Go.IntKind.wrap .i64 (A.mul 2 (Go.IntKind.wrap .i64 (A.add 300 (A.nth [m,g0,g1] 0)))))) 8,ZbB xs (-7) 7]≤1000000),List.all [AV.int .i64 (Zap (A.le (Go.IntKind.wrap .i64 (A.mul 2 (A.nth [m,g0,g1] 0))) (A.int (A.len xs))) 10),AV.int .i64 (Zap (A.le (A.int (A.len xs)) (Go.IntKind.wrap .i64 (A.mul 2 (Go.IntKind.wrap .i64 (A.add 300 (A.nth [m,g0,g1] 0)))))) 8),AV.int .i64 (ZbB xs (-7) 7)] fun x=>AV.bx x&&Nat.beq (Zan A x) 1,decide (List.length xs≤1000000),Nat.blt 0 (A.len [m,g0,g1]),Nat.blt 0 (A.len [m,g0,g1]),A.eq (A.rem (A.int (A.len xs)) 2) 0,A.not (A.eq 2 0)] (F (AV.int .i64 (ZaF [Zap (A.le (Go.IntKind.wrap .i64 (A.mul 2 (A.nth [m,g0,g1] 0))) (A.int (A.len xs))) 10,Zap (A.le (A.int (A.len xs)) (Go.IntKind.wrap .i64 (A.mul 2 (Go.IntKind.wrap .i64 (A.add 300 (A.nth [m,g0,g1] 0)))))) 8,ZbB xs (-7) 7])) (none)) (rB [decide (List.length [10,Zap (A.le (A.int (A.len xs)) (Go.IntKind.wrap .i64 (A.mul 2 (Go.IntKind.wrap .i64 (A.add 300 (A.nth [m,g0,g1] 0)))))) 8,ZbB xs (-7) 7]≤1000000),List.all [AV.int .i64 10,AV.int .i64 (Zap (A.le (A.int (A.len xs)) (Go.IntKind.wrap .i64 (A.mul 2 (Go.IntKind.wrap .i64 (A.add 300 (A.nth [m,g0,g1] 0)))))) 8),AV.int .i64 (ZbB xs (-7) 7)] fun x=>AV.bx x&&Nat.beq (Zan A x) 1,decide (List.length xs≤1000000),Nat.blt 0 (A.len [m,g0,g1]),!A.eq (A.rem (A.int (A.len xs)) 2) 0,A.not (A.eq 2 0)] (F (AV.int .i64 (ZaF [10,Zap (A.le (A.int (A.len xs)) (Go.IntKind.wrap .i64 (A.mul 2 (Go.IntKind.wrap .i64 (A.add 300 (A.nth [m,g0,g1] 0)))))) 8,ZbB xs (-7) 7])) (none))))
theorem ZDg{A:Ar}{K:KT}{F:FT}{M:MT}{m g0 g1:Int}{xs:List Int} :Zas A tab N2 64 K F M (.run 6 (.tf (.run 2 (.fn)) (.run 2 (.fn)))) (ZFs m g0 g1 xs) []=Zzq A K F m g0 g1 xs:=by kernel_rfl
def ZBa(m g0 g1:Int)(xs:List Int):AFrame:={ fn:=66,N:=26,env:=[(0,AV.agg (.ints .i64 [m,g0,g1])),(1,AV.list (.ints .i64 xs))],todo:=[.code a66.code],defs:=[],rnd:=none,ret:=false,res:=[ARes.tmp 4] }
def ZFk(m g0 g1:Int)(xs:List Int):List AFrame:=[(ZBa m g0 g1 xs)]
theorem ZwK(m g0 g1:Int)(xs:List Int):Zat tab 66 [AV.agg (.ints .i64 [m,g0,g1]),AV.list (.ints .i64 xs)]=some (ZBa m g0 g1 xs):=rfl
def ZyN(A:Ar)(K:KT)(F:FT)(m g0 g1:Int)(xs:List Int):Prop:=rB [A.not (A.eq 2 0),Nat.blt 0 (A.len [m,g0,g1])] (bB (A.not (A.eq (A.rem (A.int (A.len xs)) 2) 0)) (F (AV.int .i64 10) (none)) (rB [Nat.blt 0 (A.len [m,g0,g1])] (rB [A.inR .i64 (A.mul 2 (A.nth [m,g0,g1] 0))] (bB (A.lt (A.int (A.len xs)) (A.mul 2 (A.nth [m,g0,g1] 0))) (F (AV.int .i64 10) (none)) (rB [A.inR .i64 (A.mul 2 (A.add 300 (A.nth [m,g0,g1] 0))),A.inR .i64 (A.add 300 (A.nth [m,g0,g1] 0)),Nat.blt 0 (A.len [m,g0,g1])] (bB (A.lt (A.mul 2 (A.add 300 (A.nth [m,g0,g1] 0))) (A.int (A.len xs))) (F (AV.int .i64 8) (none)) (rB [decide (List.length xs≤1000000)] (F (AV.int .i64 (ZbB xs (-7) 7)) (none)))))))))
theorem ZCa{A:Ar}{K:KT}{F:FT}{M:MT}{m g0 g1:Int}{xs:List Int} :Zas A tab N2 66 K F M (.run 13 (.tf (.ty (.ty (.ty (.ty (.ty (.ty (.run 2 (.ty (.run 5 (.fn)))))))))) (.fy (.fy (.fy (.fy (.fy (.fy (.run 2 (.tf (.run 5 (.fn)) (.run 13 (.tf (.run 5 (.fn)) (.run 8 (.fn)))))))))))))) (ZFk m g0 g1 xs) []=ZyN A K F m g0 g1 xs:=by kernel_rfl
def Zy8(m g0 g1 s b:Int):AFrame:={ fn:=82,N:=35,env:=[(0,AV.agg (.ints .i64 [m,g0,g1])),(1,AV.int .i64 s),(2,AV.int .i64 b)],todo:=[.code a82.code],defs:=[],rnd:=none,ret:=false,res:=[ARes.tmp 6,ARes.cell 7 true 2] }
def ZF6(m g0 g1 s b:Int):List AFrame:=[(Zy8 m g0 g1 s b)]
theorem Zv5(m g0 g1 s b:Int):Zat tab 82 [AV.agg (.ints .i64 [m,g0,g1]),AV.int .i64 s,AV.int .i64 b]=some (Zy8 m g0 g1 s b):=rfl
def Zc2(n0:Int)(l1:List Int)(n2:Int)(l3:List Int):List AFrame:=[{ fn:=82,N:=35,env:=[(7,AV.ptr 82008 0 0 0),(8,AV.int .i64 n0),(18,AV.agg (.ints .i64 l1)),(19,AV.int .i64 n2)],todo:=.code (ACode.gh [] Zyd)::ZCU,defs:=[],rnd:=none,ret:=false,res:=[ARes.tmp 6,ARes.cell 7 true 2] }]
def Zcz(n0:Int)(l1:List Int)(n2:Int)(l3:List Int):Zac:=[(82008,{ base:=0,blks:=[Blk.row 22 2 (Row.gen [.agg (.ints .i64 l3)])] })]
abbrev Zii(n0:Int)(l1:List Int)(n2:Int)(l3:List Int):List AFrame×Zac:=(Zc2 n0 l1 n2 l3,Zcz n0 l1 n2 l3)
def ZzH(A:Ar)(K:KT)(F:FT)(m g0 g1 s b:Int):Prop:=rB [Nat.ble 3 (A.len [m,g0,g1]),Zaf (Zaf (A.le 0 (A.nth [m,g0,g1] 0)) (Nat.blt (A.nat (A.nth [m,g0,g1] 0)) 64)) (A.inR .i64 (A.shl b (A.nth [m,g0,g1] 0))),Nat.blt 0 (A.len [m,g0,g1]),Nat.blt 0 (A.len [0,0]),Nat.blt 0 (A.len [m,g0,g1])] (K (Zii (A.bits Go.BinOp.or .i64 (A.shl b (A.nth [m,g0,g1] 0)) s) (A.sub3 [m,g0,g1] 1 2) (0) ([0,0])))
theorem ZCQ{A:Ar}{K:KT}{F:FT}{M:MT}{m g0 g1 s b:Int} :Zas A tab N2 82 K F M (.run 27 (.hd)) (ZF6 m g0 g1 s b) []=ZzH A K F m g0 g1 s b:=by kernel_rfl
def ZdA(A:Ar)(K:KT)(F:FT)(n0:Int)(l1:List Int)(n2:Int)(l3:List Int):Prop:=bB (A.lt n2 2) (rB [A.inR .i64 (A.add n2 1),Nat.blt (0+A.nat n2) 2,Zaf (A.le 0 n2) (A.lt n2 (A.int 2)),A.not (A.eq 2 0),decide (0≤A.bits Go.BinOp.and .i64 n0 (A.nth l1 (A.nat n2))∧A.bits Go.BinOp.and .i64 n0 (A.nth l1 (A.nat n2))≤15),A.inR .u64 (A.bits Go.BinOp.and .i64 n0 (A.nth l1 (A.nat n2))),Zaf (Zaf (A.le 0 n2) (A.lt n2 (A.int 2))) (Nat.blt (A.nat n2) (A.len l1))] (K (Zii (n0) (l1) (A.add n2 1) (A.set l3 (0+A.nat n2) (A.rem (↑(Zxp (Int.toNat (A.bits Go.BinOp.and .i64 n0 (A.nth l1 (A.nat n2)))))) 2))))) (rB [Nat.beq (A.len (A.sub3 l3 0 2)) 2,Nat.ble 2 (A.len l3),Zaf (A.le 0 1) (Nat.blt (A.nat 1) 64)] (rB [Zaf (Zaf (Nat.ble 2 (A.len (A.sub3 l3 0 2))) true) true] (F (AV.tup [AV.int .i64 (A.shr n0 1),AV.agg (.ints .i64 (A.sub3 (A.sub3 l3 0 2) 0 2))]) (none))))
theorem Zfk{A:Ar}{K:KT}{F:FT}{M:MT}{n0:Int}{l1:List Int}{n2:Int}{l3:List Int} :Zas A tab N2 82 K F M (.run 6 (.tf (.run 28 (.hd)) (.run 4 (.fn)))) (Zc2 n0 l1 n2 l3) (Zcz n0 l1 n2 l3)=ZdA A K F n0 l1 n2 l3:=by kernel_rfl
def ZzQ(xs:List Int):AFrame:={ fn:=79,N:=11,env:=[(0,AV.list (.ints .i64 xs))],todo:=[.code a79.code],defs:=[],rnd:=none,ret:=false,res:=[ARes.tmp 2] }
def ZFD(xs:List Int):List AFrame:=[(ZzQ xs)]
theorem ZvI(xs:List Int):Zat tab 79 [AV.list (.ints .i64 xs)]=some (ZzQ xs):=rfl
def ZvB(A:Ar)(K:KT)(F:FT)(xs:List Int):Prop:=rB [decide (List.length [Zap (A.le (A.int (A.len xs)) 300) 8,ZbB xs 0 1]≤1000000),List.all [AV.int .i64 (Zap (A.le (A.int (A.len xs)) 300) 8),AV.int .i64 (ZbB xs 0 1)] fun x=>AV.bx x&&Nat.beq (Zan A x) 1,decide (List.length xs≤1000000)] (F (AV.int .i64 (ZaF [Zap (A.le (A.int (A.len xs)) 300) 8,ZbB xs 0 1])) (none))
theorem ZCi{A:Ar}{K:KT}{F:FT}{M:MT}{xs:List Int} :Zas A tab N2 79 K F M (.run 18 (.fn)) (ZFD xs) []=ZvB A K F xs:=by kernel_rfl
def ZAa(xs:List Int):AFrame:={ fn:=29,N:=8,env:=[(0,AV.list (.ints .i64 xs))],todo:=[.code a29.code],defs:=[],rnd:=none,ret:=false,res:=[ARes.tmp 2] }
def ZFz(xs:List Int):List AFrame:=[(ZAa xs)]
theorem Zxi(xs:List Int):Zat tab 29 [AV.list (.ints .i64 xs)]=some (ZAa xs):=rfl
def ZuC(A:Ar)(K:KT)(F:FT)(xs:List Int):Prop:=bB (A.lt 300 (A.int (A.len xs))) (F (AV.int .i64 8) (none)) (rB [decide (List.length xs≤1000000)] (bB (A.not (Zbc xs)) (F (AV.int .i64 2) (none)) (F (AV.int .i64 0) (none))))
theorem ZCn{A:Ar}{K:KT}{F:FT}{M:MT}{xs:List Int} :Zas A tab N2 29 K F M (.run 11 (.tf (.run 5 (.fn)) (.run 16 (.tf (.run 9 (.fn)) (.run 10 (.fn)))))) (ZFz xs) []=ZuC A K F xs:=by kernel_rfl
end Go.Proofs.Ytklbmkllepkjcaa
/- Contracts as a list. No condition. -/
namespace Go.Proofs.Ytklbmkllepkjcaa
def ZaA(m p q:Int):Int:=if ¬(1≤m∧m≤3)then 2 else if(1≤p∧p≤2*stN m-1)∧(1≤q∧q≤2*stN m-1)then 0 else 2
theorem Zak{m p q:Int}(h:ZaA m p q=0):(m=1∨m=2∨m=3)∧1≤p∧p≤2*stN m-1∧1≤q∧q≤2*stN m-1∧p≤15∧q≤15:=by
 unfold ZaA at h
 split at h
 ·cases h
 ·rename_i h1
  split at h
  ·rename_i h2
   have h3:=ZiE (show 1≤m∧m≤3 by omega)
   exact⟨by omega,by omega,by omega,by omega,by omega,by omega,by omega⟩
  ·cases h
theorem ZjS(m p q:Int):Zah Try.prog 28 [.agg (.ints .i64 [m,p,q])] (.int .i64 (ZaA m p q)) none:=
 start (Zwh m p q) fun C hC=>tgo hC ZhC ZDn (by
  by_cases h1:1≤m∧m≤3
  ·have h3:=ZiE h1
   have hm:0≤m∧m≤64:=by omega
   have hw:Zax m 1 3=true:=decide_eq_true h1
   have e:(2:Int)*2^m.toNat=2*stN m:=rfl
   simp only[ZuX,Zpv,List.getD_cons_zero,List.getD_cons_succ,Zuq,e,ZyL]
   cases hp:Zax p 1 (2*stN m-1)with
   |false=>
    have:¬(1≤p∧p≤2*stN m-1):=of_decide_eq_false hp
    simp[Zlu,hw,hp,ZaA,h1,this];omega
   |true=>
    have hp2:1≤p∧p≤2*stN m-1:=of_decide_eq_true hp
    cases hq:Zax q 1 (2*stN m-1)with
    |false=>
     have:¬(1≤q∧q≤2*stN m-1):=of_decide_eq_false hq
     simp[Zlu,hw,hp,hq,ZaA,h1,hp2,this];omega
    |true=>
     have hq2:1≤q∧q≤2*stN m-1:=of_decide_eq_true hq
     simp[Zlu,hw,hp,hq,ZaA,h1,hp2,hq2];omega
  ·have hw:Zax m 1 3=false:=decide_eq_false h1
   simp[ZuX,Zlu,hw,ZaA,h1])
theorem ZjO(m p q:Int):Zah Try.prog 63 [.agg (.ints .i64 [m,p,q])] (.int .i64 (ZaA m p q)) none:=
 start (Zxg m p q) fun C hC=>tgo hC ZhC ZCZ (by
  by_cases h1:1≤m∧m≤3
  ·have h3:=ZiE h1
   have hw:Zax m 1 3=true:=decide_eq_true h1
   have e:(1:Int)*2^(m+1).toNat=2*stN m:=by
    rw[show (m+1).toNat=m.toNat+1 by omega,Int.pow_succ,Int.one_mul,Int.mul_comm];rfl
   simp only[Zum,Zpv,List.getD_cons_zero,Zpp,Zuq,e,ZyL,Zuj]
   have hr:ZbB [p,q] 1 (2*stN m-1)=ZaA m p q:=by
    have hc:ZaA m p q=if(1≤p∧p≤2*stN m-1)∧(1≤q∧q≤2*stN m-1)then 0 else 2:=by
     unfold ZaA;rw[if_neg (fun h=>h h1)]
    rw[hc]
    unfold ZbB
    by_cases h2:(1≤p∧p≤2*stN m-1)∧(1≤q∧q≤2*stN m-1)
    ·rw[if_pos h2,if_pos (by simp[Zax,h2])]
    ·rw[if_neg h2,if_neg (fun h=>h2 (by simpa[Zax]using h))]
   simp[hw,hr];omega
  ·have hw:Zax m 1 3=false:=decide_eq_false h1
   simp[Zum,hw,ZaA,h1])
def ZqQ(m s b:Int):Int:=b*stN m+s
def nxS(m s b:Int):Int:=ZqQ m s b/2
def oS(m g s b:Int):Int:=ZDX (ZqQ m s b) g
theorem Zjt(r k:Nat)(hr:r≤15)(hk:k≤15):std.bits .or .i64 (r:Int) (k:Int)=((r ||| k:Nat):Int):=by
 have h1:∀m:Nat,m≤15→(BitVec.ofInt 64 (m:Int)).toNat=m:=fun m hm=>by
  rw[BitVec.ofInt_natCast,BitVec.toNat_ofNat];exact Nat.mod_eq_of_lt (by omega)
 show IntKind.i64.wrap ((BitVec.ofInt 64 (r:Int) ||| BitVec.ofInt 64 (k:Int)).toNat:Int)=_
 rw[BitVec.toNat_or,h1 r hr,h1 k hk]
 have:r ||| k<2^4:=Nat.or_lt_two_pow (by omega) (by omega)
 rw[IntKind.wrap_i64]
 omega
def Zef(m p q s b:Int):Bool:=decide (ZaA m p q=0∧0≤s∧s<stN m∧(b=0∨b=1))
theorem Zpe{m s b:Int}(hm:m=1∨m=2∨m=3)(hs:0≤s∧s<stN m)(hb:b=0∨b=1):0≤ZqQ m s b∧ZqQ m s b≤15∧0≤nxS m s b∧nxS m s b<stN m∧ZqQ m s b<2*stN m:=by
 unfold nxS ZqQ
 rcases hm with rfl |rfl |rfl<;>rcases hb with rfl |rfl<;>simp[stN]at hs⊢ <;>omega
theorem ZpL:∀m,m<4→∀B,B<2→∀S,S<8→S<2^m→B*2^m ||| S=B*2^m+S:=by decide
theorem ZzY{m s b:Int}(hm:m=1∨m=2∨m=3)(hs:0≤s∧s<stN m)(hb:b=0∨b=1):std.bits .or .i64 (b*2^m.toNat) s=ZqQ m s b:=by
 obtain⟨S,rfl⟩:=Int.eq_ofNat_of_zero_le hs.1
 have hS:=hs.2
 unfold ZqQ
 rcases hm with rfl |rfl |rfl<;>rcases hb with rfl |rfl<;>simp[stN]at hS⊢
 all_goals
  first
  |(have:=Zjt 0 S (by omega) (by omega);simpa using this)
  |(have:=Zjt 2 S (by omega) (by omega);have h2:=ZpL 1 (by omega) 1 (by omega) S (by omega) (by omega);simp at h2;rw[h2]at this;simpa using this)
  |(have:=Zjt 4 S (by omega) (by omega);have h2:=ZpL 2 (by omega) 1 (by omega) S (by omega) (by omega);simp at h2;rw[h2]at this;simpa using this)
  |(have:=Zjt 8 S (by omega) (by omega);have h2:=ZpL 3 (by omega) 1 (by omega) S (by omega) (by omega);simp at h2;rw[h2]at this;simpa using this)
theorem ZoA{m:Int}(hm:m=1∨m=2∨m=3):(2:Int)^m.toNat≤8∧2≤(2:Int)^m.toNat:=by
 rcases hm with rfl |rfl |rfl<;>decide
theorem ZjZ(m p q s b:Int)(hv:ZaA m p q=0)(hs:0≤s∧s<stN m)(hb:b=0∨b=1):Zah Try.prog 82 [.agg (.ints .i64 [m,p,q]), .int .i64 s, .int .i64 b] (.tup [.int .i64 (nxS m s b), .agg (.ints .i64 [oS m p s b,oS m q s b])]) none:=by
 obtain⟨hm,p1,p2,q1,q2,p3,q3⟩:=Zak hv
 obtain⟨r0,r1,r2,r3,r4⟩:=Zpe hm hs hb
 have hw:=ZoA hm
 have hb2:0≤b*2^m.toNat∧b*2^m.toNat≤8:=by rcases hb with rfl |rfl<;>omega
 have ho:=ZzY hm hs hb
 obtain⟨R,hR⟩:=Int.eq_ofNat_of_zero_le r0
 obtain⟨P,rfl⟩:=Int.eq_ofNat_of_zero_le (show 0≤p by omega)
 obtain⟨Q,rfl⟩:=Int.eq_ofNat_of_zero_le (show 0≤q by omega)
 have b0:∀k:Nat,k≤15→0≤std.bits .and .i64 (R:Int) (k:Int)∧std.bits .and .i64 (R:Int) (k:Int)≤15:=fun k hk=>by
  rw[Zmp R k (by omega) hk];have:= @Nat.and_le_left R k;omega
 have u0:∀k:Nat,k≤15→std.inR .u64 (std.bits .and .i64 (R:Int) (k:Int))=true:=fun k hk=>by
  have:=b0 k hk
  exact decide_eq_true ⟨by show(0:Int)≤_;omega,by show _≤(18446744073709551615:Int);omega⟩
 have hk:∀k:Nat,k≤15→Int.tmod ((Zxp (Int.toNat (std.bits .and .i64 (R:Int) (k:Int))):Nat):Int) 2=oS m k s b:=fun k hk=>by
  rw[Zmp R k (by omega) hk,oS,hR];rfl
 refine start (Zv5 m P Q s b) fun C hC=>tgo hC ZhC ZCQ ?_
 simp only[ZzH,Zpv,List.getD_cons_zero,Zuq,ho,hR,Zuj]
 have two:Ev C (Zc2 R [(P:Int),(Q:Int)] (2:Nat) [oS m P s b,oS m Q s b]) (Zcz R [(P:Int),(Q:Int)] (2:Nat) [oS m P s b,oS m Q s b]) (Zbe 82 (.tup [.int .i64 (nxS m s b), .agg (.ints .i64 [oS m P s b,oS m Q s b])]) none):=tgo hC ZhC Zfk (by
  have:nxS m s b=(R:Int).fdiv 2:=by unfold nxS;rw[hR,Int.fdiv_eq_ediv];simp
  simp[ZdA,this])
 have one:Ev C (Zc2 R [(P:Int),(Q:Int)] (1:Nat) [oS m P s b,0]) (Zcz R [(P:Int),(Q:Int)] (1:Nat) [oS m P s b,0]) (Zbe 82 (.tup [.int .i64 (nxS m s b), .agg (.ints .i64 [oS m P s b,oS m Q s b])]) none):=tgo hC ZhC Zfk (by
  simp[ZdA,b0 Q (by omega),u0 Q (by omega),hk Q (by omega)]
  simpa using two)
 have zero:Ev C (Zc2 R [(P:Int),(Q:Int)] (0:Nat) [0,0]) (Zcz R [(P:Int),(Q:Int)] (0:Nat) [0,0]) (Zbe 82 (.tup [.int .i64 (nxS m s b), .agg (.ints .i64 [oS m P s b,oS m Q s b])]) none):=tgo hC ZhC Zfk (by
  simp[ZdA,b0 P (by omega),u0 P (by omega),hk P (by omega)]
  simpa using one)
 simp
 exact⟨by omega,by simpa using zero⟩
def sfE(m:Int)(so:List Int):Int:=if so.length%2≠0∨(so.length:Int)<2*m then 10 else if 2*(300+m)<(so.length:Int)then 8 else ZbB so (-7) 7
theorem Zkm(m p q:Int)(so:List Int)(hm:1≤m∧m≤3):Zah Try.prog 66 [.agg (.ints .i64 [m,p,q]), .list (.ints .i64 so)] (.int .i64 (sfE m so)) none:=
 start (ZwK m p q so) fun C hC=>tgo hC ZhC ZCa (by
  have ht:((so.length:Nat):Int).tmod 2=((so.length%2:Nat):Int):=rfl
  simp only[ZyN,Zpv,List.getD_cons_zero,Zsk,Zpp,Zn7,Zn8,ZxA,ht]
  by_cases h1:so.length%2=0
  ·by_cases h2:(so.length:Int)<2*m
   ·simp[h1,h2,sfE];omega
   ·by_cases h4:2*(300+m)<so.length
    ·simp[h1,h2,h4,sfE];omega
    ·have h:so.length≤1000000:=by omega
     simp[h1,h2,h4,sfE,h];omega
  ·have h1':¬(so.length:Int)%2=0:=by omega
   simp[h1,h1',sfE])
def sfW(m:Int)(so:List Int):Int:=
 ZaF [if so.length%2=0 then Zap (decide (IntKind.i64.wrap (2*m)≤so.length)) 10 else 10,Zap (decide ((so.length:Int)≤IntKind.i64.wrap (2*IntKind.i64.wrap (300+m)))) 8,ZbB so (-7) 7]
theorem ZkG(m p q:Int)(so:List Int)(h:so.length≤1000000):Zah Try.prog 64 [.agg (.ints .i64 [m,p,q]), .list (.ints .i64 so)] (.int .i64 (sfW m so)) none:=
 start (ZwE m p q so) fun C hC=>tgo hC ZhC ZDg (by
  have ht:((so.length:Nat):Int).tmod 2=((so.length%2:Nat):Int):=rfl
  simp only[Zzq,Zpv,List.getD_cons_zero,Zsk,Zpp,Zn7,Zn8,ZxA,ht]
  by_cases h1:so.length%2=0
  ·simp[Zlu,h1,sfW,AV.bx,Zan,h]
  ·have h1':¬(so.length:Int)%2=0:=by omega
   simp[Zlu,h1,h1',sfW,AV.bx,Zan,h])
theorem ZhK{m:Int}{so:List Int}(hm:1≤m∧m≤3):sfW m so=sfE m so:=by
 have w1:IntKind.i64.wrap (2*m)=2*m:=by rw[IntKind.wrap_i64];omega
 have w2:IntKind.i64.wrap (300+m)=300+m:=by rw[IntKind.wrap_i64];omega
 have w3:IntKind.i64.wrap (2*(300+m))=2*(300+m):=by rw[IntKind.wrap_i64];omega
 rw[sfW,sfE,w1,w2,w3]
 by_cases h1:so.length%2=0
 ·by_cases h2:(so.length:Int)<2*m
  ·have:¬(2*m≤so.length):=by omega
   simp[h1,h2,this,ZaF,Zap]
  ·have h2':2*m≤so.length:=by omega
   by_cases h4:2*(300+m)<so.length
   ·have:¬((so.length:Int)≤2*(300+m)):=by omega
    simp[h1,h2,h2',h4,this,ZaF,Zap]
   ·have:(so.length:Int)≤2*(300+m):=by omega
    simp only[h1,h2,h2',h4,this,ZaF,Zap]
    simp
    exact fun e=>e.symm
 ·simp[h1,ZaF]
def bsE(xs:List Int):Int:=if 300<xs.length then 8 else if Zbc xs=true then 0 else 2
theorem Zsq(w:List Int):ZbB w 0 1=if Zbc w=true then 0 else 2:=by
 have:(fun x:Int=>Zax x 0 1)=fun x=>decide (x=0∨x=1):=by
  funext x;unfold Zax;rw[decide_eq_decide];omega
 unfold ZbB Zbc;rw[this]
theorem ZoB(xs:List Int)(h:xs.length≤1000000):Zah Try.prog 29 [.list (.ints .i64 xs)] (.int .i64 (bsE xs)) none:=
 start (Zxi xs) fun C hC=>tgo hC ZhC ZCn (by
  by_cases h1:(300:Int)<xs.length
  ·simp[ZuC,h1,bsE,show 300<xs.length by omega]
  ·cases hb:Zbc xs<;>simp[ZuC,h1,bsE,show ¬300<xs.length by omega,h,hb])
theorem ZoU(xs:List Int)(h:xs.length≤1000000):Zah Try.prog 79 [.list (.ints .i64 xs)] (.int .i64 (bsE xs)) none:=
 start (ZvI xs) fun C hC=>tgo hC ZhC ZCi (by
  rw[bsE]
  by_cases h1:300<xs.length
  ·have:¬((xs.length:Int)≤300):=by omega
   simp[ZvB,h1,h,AV.bx,Zan,ZaF,Zap,this]
  ·have:(xs.length:Int)≤300:=by omega
   simp[ZvB,h1,h,AV.bx,Zan,ZaF,Zap,this,Zsq])
def k28i:Ctr:=⟨28,0,fun _ a=>match a with |[.agg (.ints .i64 [m,p,q])]=>some (true, .int .i64 (ZaA m p q),none) |_=>none⟩
theorem Zw6:k28i.OK Try.prog:=fun pa args r fr h=>by
 simp only[k28i]at h
 split at h
 ·cases h
  exact ZjS _ _ _
 ·cases h
def k28g:Ctr:=⟨28,0,fun _ a=>match a with |[.agg (.gen [.int .i64 m, .int .i64 p, .int .i64 q])]=>some (true, .int .i64 (ZaA m p q),none) |_=>none⟩
theorem Zur:k28g.OK Try.prog:=fun pa args r fr h=>by
 simp only[k28g]at h
 split at h
 ·cases h
  exact Zc7 (xs:=[]) (r:=.ints .i64 [_,_,_]) (ZjS _ _ _) rfl
 ·cases h
def k63i:Ctr:=⟨63,0,fun _ a=>match a with |[.agg (.ints .i64 [m,p,q])]=>some (true, .int .i64 (ZaA m p q),none) |_=>none⟩
theorem ZwU:k63i.OK Try.prog:=fun pa args r fr h=>by
 simp only[k63i]at h
 split at h
 ·cases h
  exact ZjO _ _ _
 ·cases h
def k63g:Ctr:=⟨63,0,fun _ a=>match a with |[.agg (.gen [.int .i64 m, .int .i64 p, .int .i64 q])]=>some (true, .int .i64 (ZaA m p q),none) |_=>none⟩
theorem ZvX:k63g.OK Try.prog:=fun pa args r fr h=>by
 simp only[k63g]at h
 split at h
 ·cases h
  exact Zc7 (xs:=[]) (r:=.ints .i64 [_,_,_]) (ZjO _ _ _) rfl
 ·cases h
def k82i:Ctr:=⟨82,0,fun _ a=>match a with |[.agg (.ints .i64 [m,p,q]), .int .i64 s, .int .i64 b]=>some (decide (Zef m p q s b=true), .tup [.int .i64 (nxS m s b), .agg (.ints .i64 [oS m p s b,oS m q s b])],none) |_=>none⟩
theorem Zws:k82i.OK Try.prog:=fun pa args r fr h=>by
 simp only[k82i]at h
 split at h
 ·simp only[Option.some.injEq,Prod.mk.injEq,decide_eq_true_eq]at h
  obtain⟨h0,rfl,rfl⟩:=h
  exact ZjZ _ _ _ _ _ (of_decide_eq_true h0).1 ⟨(of_decide_eq_true h0).2.1,(of_decide_eq_true h0).2.2.1⟩ (of_decide_eq_true h0).2.2.2
 ·cases h
def k82g:Ctr:=⟨82,0,fun _ a=>match a with |[.agg (.gen [.int .i64 m, .int .i64 p, .int .i64 q]), .int .i64 s, .int .i64 b]=>some (decide (Zef m p q s b=true), .tup [.int .i64 (nxS m s b), .agg (.ints .i64 [oS m p s b,oS m q s b])],none) |_=>none⟩
theorem Zw5:k82g.OK Try.prog:=fun pa args r fr h=>by
 simp only[k82g]at h
 split at h
 ·simp only[Option.some.injEq,Prod.mk.injEq,decide_eq_true_eq]at h
  obtain⟨h0,rfl,rfl⟩:=h
  exact Zc7 (xs:=[]) (r:=.ints .i64 [_,_,_]) (ZjZ _ _ _ _ _ (of_decide_eq_true h0).1 ⟨(of_decide_eq_true h0).2.1,(of_decide_eq_true h0).2.2.1⟩ (of_decide_eq_true h0).2.2.2) rfl
 ·cases h
def k66i:Ctr:=⟨66,0,fun _ a=>match a with |[.agg (.ints .i64 [m,_,_]), .list (.ints .i64 so)]=>some (decide (ZcQ m=true), .int .i64 (sfE m so),none) |_=>none⟩
theorem ZwJ:k66i.OK Try.prog:=fun pa args r fr h=>by
 simp only[k66i]at h
 split at h
 ·simp only[Option.some.injEq,Prod.mk.injEq,decide_eq_true_eq]at h
  obtain⟨h0,rfl,rfl⟩:=h
  exact Zkm _ _ _ _ (of_decide_eq_true h0)
 ·cases h
def k66g:Ctr:=⟨66,0,fun _ a=>match a with |[.agg (.gen [.int .i64 m, .int .i64 _, .int .i64 _]), .list (.ints .i64 so)]=>some (decide (ZcQ m=true), .int .i64 (sfE m so),none) |_=>none⟩
theorem Zwy:k66g.OK Try.prog:=fun pa args r fr h=>by
 simp only[k66g]at h
 split at h
 ·simp only[Option.some.injEq,Prod.mk.injEq,decide_eq_true_eq]at h
  obtain⟨h0,rfl,rfl⟩:=h
  exact Zc7 (xs:=[]) (r:=.ints .i64 [_,_,_]) (Zkm _ _ _ _ (of_decide_eq_true h0)) rfl
 ·cases h
def k64i:Ctr:=⟨64,0,fun _ a=>match a with |[.agg (.ints .i64 [m,_,_]), .list (.ints .i64 so)]=>some (decide (so.length≤1000000), .int .i64 (sfW m so),none) |_=>none⟩
theorem Zwd:k64i.OK Try.prog:=fun pa args r fr h=>by
 simp only[k64i]at h
 split at h
 ·simp only[Option.some.injEq,Prod.mk.injEq,decide_eq_true_eq]at h
  obtain⟨h0,rfl,rfl⟩:=h
  exact ZkG _ _ _ _ h0
 ·cases h
def k64g:Ctr:=⟨64,0,fun _ a=>match a with |[.agg (.gen [.int .i64 m, .int .i64 _, .int .i64 _]), .list (.ints .i64 so)]=>some (decide (so.length≤1000000), .int .i64 (sfW m so),none) |_=>none⟩
theorem Zuo:k64g.OK Try.prog:=fun pa args r fr h=>by
 simp only[k64g]at h
 split at h
 ·simp only[Option.some.injEq,Prod.mk.injEq,decide_eq_true_eq]at h
  obtain⟨h0,rfl,rfl⟩:=h
  exact Zc7 (xs:=[]) (r:=.ints .i64 [_,_,_]) (ZkG _ _ _ _ h0) rfl
 ·cases h
def k29:Ctr:=⟨29,0,fun _ a=>match a with |[.list (.ints .i64 xs)]=>some (decide (xs.length≤1000000), .int .i64 (bsE xs),none) |_=>none⟩
theorem ZAc:k29.OK Try.prog:=fun pa args r fr h=>by
 simp only[k29]at h
 split at h
 ·simp only[Option.some.injEq,Prod.mk.injEq,decide_eq_true_eq]at h
  obtain⟨h0,rfl,rfl⟩:=h
  exact ZoB _ h0
 ·cases h
def k79:Ctr:=⟨79,0,fun _ a=>match a with |[.list (.ints .i64 xs)]=>some (decide (xs.length≤1000000), .int .i64 (bsE xs),none) |_=>none⟩
theorem Zza:k79.OK Try.prog:=fun pa args r fr h=>by
 simp only[k79]at h
 split at h
 ·simp only[Option.some.injEq,Prod.mk.injEq,decide_eq_true_eq]at h
  obtain⟨h0,rfl,rfl⟩:=h
  exact ZoU _ h0
 ·cases h
def N3:List Ctr:=[k28i,k28g,k63i,k63g,k82i,k82g,k66i,k66g,k64i,k64g,k29,k79]++N2
theorem ZDu:ZaP Try.prog N3:=⟨Zw6,⟨Zur,⟨ZwU,⟨ZvX,⟨Zws,⟨Zw5,⟨ZwJ,⟨Zwy,⟨Zwd,⟨Zuo,⟨ZAc,⟨Zza,ZhC⟩⟩⟩⟩⟩⟩⟩⟩⟩⟩⟩⟩
end Go.Proofs.Ytklbmkllepkjcaa
/- Contracts as a list. No condition. -/
namespace Go.Proofs.Ytklbmkllepkjcaa
def Zaj(so:List Int):Int:=((so.length/2:Nat):Int)
theorem ZnU(m p q:Int)(so:List Int)(h:so.length≤1000000):Zah Try.prog 84 [.agg (.gen [.int .i64 m, .int .i64 p, .int .i64 q, .list (.ints .i64 so)])] (.int .i64 (Zaj so)) none:=
 start (Zwp m p q so) fun C hC=>tgo hC ZcB ZCY (by
  have ht:((so.length:Nat):Int).tdiv 2=Zaj so:=rfl
  have hb:0≤Zaj so∧Zaj so≤1000000:=by unfold Zaj;omega
  simp only[ZyA,Zyi,Zn7,Zn8,ht]
  simp;omega)
theorem Zl2(m p q:Int)(so:List Int)(h:1≤m∧m≤3):Zah Try.prog 86 [.agg (.gen [.int .i64 m, .int .i64 p, .int .i64 q, .list (.ints .i64 so)])] (.int .i64 (stN m)) none:=
 start (Zwm m p q so) fun C hC=>tgo hC ZcB ZDp (by
  have h2:=ZiE h
  unfold stN at h2⊢
  simp[ZBq];omega)
def gaI(so:List Int)(t:Nat)(a b:Int):Int:=so.getD (2*t) 0*(1-2*a)+so.getD (2*t+1) 0*(1-2*b)
theorem Zbt{so:List Int}(h:ZbB so (-7) 7=0)(k:Nat): -7≤so.getD k 0∧so.getD k 0≤7:=by
 unfold ZbB at h
 split at h
 ·rename_i hall
  by_cases hk:k<so.length
  ·have:=List.all_eq_true.1 hall _ (Zge (d:=0) hk)
   simpa[Zax]using of_decide_eq_true this
  ·rw[List.getD_eq_getElem?_getD,List.getElem?_eq_none (by omega)];simp
 ·cases h
theorem ZCV{so:List Int}(h:ZbB so (-7) 7=0)(t:Nat){a b:Int}(ha:a=0∨a=1)(hb:b=0∨b=1): -14≤gaI so t a b∧gaI so t a b≤14:=by
 have h1:=Zbt h (2*t)
 have h2:=Zbt h (2*t+1)
 unfold gaI
 rcases ha with rfl |rfl<;>rcases hb with rfl |rfl<;>omega
theorem Zq4(n:Int)(h:n=2∨n=4∨n=8):Zah Try.prog 83 [.list (.ints .i64 [-100000]), .int .i64 n] (.row 0 0) (some ⟨3,1, .ints .i64 (List.replicate n.toNat (-100000))⟩):=by
 rcases h with rfl |rfl |rfl
 ·exact Zab (n:=100000) (l:=[]) follows Zad trivial (by kernel_rfl)
 ·exact Zab (n:=100000) (l:=[]) follows Zad trivial (by kernel_rfl)
 ·exact Zab (n:=100000) (l:=[]) follows Zad trivial (by kernel_rfl)
theorem ZqM(n:Int)(h:n=2∨n=4∨n=8):Zah Try.prog 83 [.list (.ints .i64 [100000]), .int .i64 n] (.row 0 0) (some ⟨3,1, .ints .i64 (List.replicate n.toNat 100000)⟩):=by
 rcases h with rfl |rfl |rfl
 ·exact Zab (n:=100000) (l:=[]) follows Zad trivial (by kernel_rfl)
 ·exact Zab (n:=100000) (l:=[]) follows Zad trivial (by kernel_rfl)
 ·exact Zab (n:=100000) (l:=[]) follows Zad trivial (by kernel_rfl)
theorem ZoI(n:Int)(h:n=2∨n=4∨n=8):Zah Try.prog 122 [.list (.flts .f32 [3351465984]), .int .i64 n] (.row 0 0) (some ⟨118,1, .flts .f32 (List.replicate n.toNat 3351465984)⟩):=by
 rcases h with rfl |rfl |rfl
 ·exact Zab (n:=100000) (l:=[]) follows Zad trivial (by kernel_rfl)
 ·exact Zab (n:=100000) (l:=[]) follows Zad trivial (by kernel_rfl)
 ·exact Zab (n:=100000) (l:=[]) follows Zad trivial (by kernel_rfl)
def Zrn(n:Int):Bool:=decide (n=2∨n=4∨n=8)
def k84:Ctr:=⟨84,0,fun _ a=>match a with |[.agg (.gen [.int .i64 _, .int .i64 _, .int .i64 _, .list (.ints .i64 so)])]=>some (decide (so.length≤1000000), .int .i64 (Zaj so),none) |_=>none⟩
theorem ZzG:k84.OK Try.prog:=fun pa args r fr h=>by
 simp only[k84]at h
 split at h
 ·simp only[Option.some.injEq,Prod.mk.injEq,decide_eq_true_eq]at h
  obtain⟨h0,rfl,rfl⟩:=h
  exact ZnU _ _ _ _ h0
 ·cases h
def k86:Ctr:=⟨86,0,fun _ a=>match a with |[.agg (.gen [.int .i64 m, .int .i64 _, .int .i64 _, .list (.ints .i64 _)])]=>some (decide (ZcQ m=true), .int .i64 (stN m),none) |_=>none⟩
theorem Zzh:k86.OK Try.prog:=fun pa args r fr h=>by
 simp only[k86]at h
 split at h
 ·simp only[Option.some.injEq,Prod.mk.injEq,decide_eq_true_eq]at h
  obtain⟨h0,rfl,rfl⟩:=h
  exact Zl2 _ _ _ _ (of_decide_eq_true h0)
 ·cases h
def k83:Ctr:=⟨83,0,fun _ a=>match a with |[.list (.ints .i64 [-100000]), .int .i64 n]=>some (decide (Zrn n=true), .row 0 0,some ⟨3,1, .ints .i64 (List.replicate n.toNat (-100000))⟩) |_=>none⟩
theorem Zym:k83.OK Try.prog:=fun pa args r fr h=>by
 simp only[k83]at h
 split at h
 ·simp only[Option.some.injEq,Prod.mk.injEq,decide_eq_true_eq]at h
  obtain⟨h0,rfl,rfl⟩:=h
  exact Zq4 _ (of_decide_eq_true h0)
 ·cases h
def k83f:Ctr:=⟨83,0,fun _ a=>match a with |[.list (.ints .i64 [100000]), .int .i64 n]=>some (decide (Zrn n=true), .row 0 0,some ⟨3,1, .ints .i64 (List.replicate n.toNat 100000)⟩) |_=>none⟩
theorem Zu5:k83f.OK Try.prog:=fun pa args r fr h=>by
 simp only[k83f]at h
 split at h
 ·simp only[Option.some.injEq,Prod.mk.injEq,decide_eq_true_eq]at h
  obtain⟨h0,rfl,rfl⟩:=h
  exact ZqM _ (of_decide_eq_true h0)
 ·cases h
def k122:Ctr:=⟨122,0,fun _ a=>match a with |[.list (.flts .f32 [3351465984]), .int .i64 n]=>some (decide (Zrn n=true), .row 0 0,some ⟨118,1, .flts .f32 (List.replicate n.toNat 3351465984)⟩) |_=>none⟩
theorem Zul:k122.OK Try.prog:=fun pa args r fr h=>by
 simp only[k122]at h
 split at h
 ·simp only[Option.some.injEq,Prod.mk.injEq,decide_eq_true_eq]at h
  obtain⟨h0,rfl,rfl⟩:=h
  exact ZoI _ (of_decide_eq_true h0)
 ·cases h
def N4:List Ctr:=[k84,k86,k83,k83f,k122]++N3
theorem Zu9:ZaP Try.prog N4:=⟨ZzG,⟨Zzh,⟨Zym,⟨Zu5,⟨Zul,ZDu⟩⟩⟩⟩⟩
end Go.Proofs.Ytklbmkllepkjcaa
/- Paths of functions, printed by the explorer (Gx). No condition. -/
namespace Go.Proofs.Ytklbmkllepkjcaa
set_option maxRecDepth 100000
set_option linter.unusedVariables false
def ZtL(m g0 g1:Int)(xs:List Int):AFrame:={ fn:=108,N:=9,env:=[(0,AV.agg (Row.gen [.int .i64 m, .int .i64 g0, .int .i64 g1, .list (.ints .i64 xs)]))],todo:=[.code a108.code],defs:=[],rnd:=none,ret:=false,res:=[ARes.tmp 2] }
def ZCL(m g0 g1:Int)(xs:List Int):List AFrame:=[(ZtL m g0 g1 xs)]
theorem ZrD(m g0 g1:Int)(xs:List Int):Zat tab 108 [AV.agg (Row.gen [.int .i64 m, .int .i64 g0, .int .i64 g1, .list (.ints .i64 xs)])]=some (ZtL m g0 g1 xs):=rfl
def Zue(A:Ar)(K:KT)(F:FT)(m g0 g1:Int)(xs:List Int):Prop:=rB [A.inR .i64 (A.sub (Zaj xs) m),decide (List.length xs≤1000000)] (F (AV.int .i64 (A.sub (Zaj xs) m)) (none))
theorem ZxD{A:Ar}{K:KT}{F:FT}{M:MT}{m g0 g1:Int}{xs:List Int} :Zas A tab N4 108 K F M (.run 9 (.fn)) (ZCL m g0 g1 xs) []=Zue A K F m g0 g1 xs:=by kernel_rfl
def ZAL(m g0 g1:Int)(xs:List Int):AFrame:={ fn:=15,N:=14,env:=[(0,AV.agg (Row.gen [.int .i64 m, .int .i64 g0, .int .i64 g1])),(1,AV.list (.ints .i64 xs))],todo:=[.code a15.code],defs:=[],rnd:=none,ret:=false,res:=[ARes.tmp 4] }
def ZE7(m g0 g1:Int)(xs:List Int):List AFrame:=[(ZAL m g0 g1 xs)]
theorem Zvk(m g0 g1:Int)(xs:List Int):Zat tab 15 [AV.agg (Row.gen [.int .i64 m, .int .i64 g0, .int .i64 g1]),AV.list (.ints .i64 xs)]=some (ZAL m g0 g1 xs):=rfl
def ZvG(A:Ar)(K:KT)(F:FT)(m g0 g1:Int)(xs:List Int):Prop:=bB (A.not (A.eq (ZaA m g0 g1) 0)) (F (AV.int .i64 (ZaA m g0 g1)) (none)) (rB [decide (ZcQ m=true)] (F (AV.int .i64 (sfE m xs)) (none)))
theorem ZCz{A:Ar}{K:KT}{F:FT}{M:MT}{m g0 g1:Int}{xs:List Int} :Zas A tab N4 15 K F M (.run 17 (.tf (.run 6 (.fn)) (.run 9 (.fn)))) (ZE7 m g0 g1 xs) []=ZvG A K F m g0 g1 xs:=by kernel_rfl
end Go.Proofs.Ytklbmkllepkjcaa
/- Contracts as a list. No condition. -/
namespace Go.Proofs.Ytklbmkllepkjcaa
theorem Zot(m p q:Int)(so:List Int)(h:so.length≤1000000∧1≤m∧m≤3):Zah Try.prog 108 [.agg (.gen [.int .i64 m, .int .i64 p, .int .i64 q, .list (.ints .i64 so)])] (.int .i64 (Zaj so-m)) none:=
 start (ZrD m p q so) fun C hC=>tgo hC Zu9 ZxD (by
  have hb:0≤Zaj so∧Zaj so≤1000000:=by unfold Zaj;omega
  simp[Zue];omega)
def cdE(m p q:Int)(so:List Int):Int:=if ZaA m p q≠0 then ZaA m p q else sfE m so
theorem ZqI(m p q:Int)(so:List Int):Zah Try.prog 15 [.agg (.gen [.int .i64 m, .int .i64 p, .int .i64 q]), .list (.ints .i64 so)] (.int .i64 (cdE m p q so)) none:=
 start (Zvk m p q so) fun C hC=>tgo hC Zu9 ZCz (by
  by_cases h0:ZaA m p q=0
  ·have hm:ZcQ m=true:=decide_eq_true (by have:=(Zak h0).1;omega)
   simp[ZvG,h0,cdE,hm]
  ·simp[ZvG,h0,cdE])
theorem Zcq(m g s b:Int):oS m g s b=0∨oS m g s b=1:=by
 unfold oS ZDX
 rcases Nat.mod_two_eq_zero_or_one (Zxp ((ZqQ m s b).toNat &&& g.toNat))with h |h<;>rw[h]<;>simp
def gnI(m p q:Int)(so:List Int)(t:Nat)(s b:Int):Int:=gaI so t (oS m p s b) (oS m q s b)
theorem Zdb{m p q:Int}{so:List Int}(h:ZbB so (-7) 7=0)(t:Nat)(s b:Int): -14≤gnI m p q so t s b∧gnI m p q so t s b≤14:=ZCV h t (Zcq _ _ _ _) (Zcq _ _ _ _)
section
variable (m p q:Int)(so:List Int)
def stS:Nat:=(stN m).toNat
def Zaa:Nat:=so.length/2
def ZaS:Nat:=so.length/2-m.toNat
def upR(D:List Int)(t:Nat)(s:Nat)(b:Int)(cur:Int):Int:=if -1000000<D.getD (nxS m s b).toNat 0 then max cur (D.getD (nxS m s b).toNat 0+gnI m p q so t s b)else cur
def ZtU(D:List Int)(t s:Nat):Int:=if t<ZaS m so then upR m p q so D t s 1 (upR m p q so D t s 0 (-2000000))else upR m p q so D t s 0 (-2000000)
def dpR:Nat→List Int
 |0=>(List.range (stS m)).map fun s=>if s=0 then 0 else -2000000
 |n+1=>(List.range (stS m)).map fun s=>ZtU m p q so (dpR n) (Zaa so-1-n) s
def tbR:Nat→Nat→Int→List Int
 |0,_,_=>[]
 |j+1,t,s=>if(dpR m p q so (Zaa so-t-1)).getD (nxS m s 0).toNat 0+gnI m p q so t s 0=(dpR m p q so (Zaa so-t)).getD s.toNat 0 then 0::tbR j (t+1) (nxS m s 0)else 1::tbR j (t+1) (nxS m s 1)
end
structure OkC (m p q:Int) (so:List Int):Prop where
 cv:ZaA m p q=0
 sf:sfE m so=0
theorem OkC.soft{m p q:Int}{so:List Int}(h:OkC m p q so):ZbB so (-7) 7=0∧so.length%2=0∧2*m≤so.length∧so.length≤606:=by
 have hm:=(Zak h.cv).1
 have:=h.sf
 unfold sfE at this
 split at this
 ·cases this
 ·rename_i h1
  split at this
  ·cases this
  ·rename_i h2
   exact⟨this,by omega,by omega,by omega⟩
theorem ZaE{m:Int}(h:m=1∨m=2∨m=3):(stS m=2∨stS m=4∨stS m=8)∧(stS m:Int)=stN m:=by
 have h2:=ZiE (m:=m) (by omega)
 unfold stS;omega
theorem ZaO{m p q:Int}{so:List Int}(h:OkC m p q so){s:Nat}(hs:s<stS m){b:Int}(hb:b=0∨b=1):Zef m p q s b=true∧0≤nxS m s b∧(nxS m s b).toNat<stS m:=by
 have hm:=(Zak h.cv).1
 have h2:=ZaE hm
 obtain⟨r0,r1,r2,r3,r4⟩:=Zpe (m:=m) (s:=s) (b:=b) hm (by omega) hb
 exact⟨decide_eq_true ⟨h.cv,by omega,by omega,hb⟩,r2,by omega⟩
section
variable (m p q:Int)(so:List Int)
theorem Zqv(n:Nat):(dpR m p q so n).length=stS m:=by cases n<;>simp[dpR]
theorem ZjJ{s:Nat}(h:s<stS m):(dpR m p q so 0).getD s 0=if s=0 then 0 else -2000000:=by
 rw[dpR,List.getD_eq_getElem?_getD,List.getElem?_map,List.getElem?_range h];rfl
theorem ZeF{n s:Nat}(h:s<stS m):(dpR m p q so (n+1)).getD s 0=ZtU m p q so (dpR m p q so n) (Zaa so-1-n) s:=by
 rw[dpR,List.getD_eq_getElem?_getD,List.getElem?_map,List.getElem?_range h];rfl
end
theorem ZAM{m p q:Int}{so D:List Int}{U:Int}(hg:ZbB so (-7) 7=0)(t s:Nat)(b cur:Int)(hD:∀j, -2000000≤D.getD j 0∧D.getD j 0≤U)(hc: -2000000≤cur∧cur≤U+14): -2000000≤upR m p q so D t s b cur∧upR m p q so D t s b cur≤U+14:=by
 have h1:=Zdb (m:=m) (p:=p) (q:=q) hg t s b
 have h2:=hD (nxS m s b).toNat
 unfold upR
 split
 ·omega
 ·exact hc
theorem Zx9{m p q:Int}{so:List Int}(hg:ZbB so (-7) 7=0):∀n j:Nat, -2000000≤(dpR m p q so n).getD j 0∧(dpR m p q so n).getD j 0≤14*n
 |0,j=>by
  by_cases h:j<stS m
  ·rw[ZjJ m p q so h];split<;>simp
  ·rw[List.getD_eq_getElem?_getD,List.getElem?_eq_none (by rw[Zqv];omega)];simp
 |n+1,j=>by
  have ih:=Zx9 (m:=m) (p:=p) (q:=q) hg n
  by_cases h:j<stS m
  ·rw[ZeF m p q so h,ZtU]
   have h0:=ZAM (m:=m) (p:=p) (q:=q) hg (Zaa so-1-n) j 0 (-2000000) ih (by omega)
   split
   ·have:=ZAM (m:=m) (p:=p) (q:=q) hg (Zaa so-1-n) j 1 _ ih h0
    omega
   ·omega
  ·rw[List.getD_eq_getElem?_getD,List.getElem?_eq_none (by rw[Zqv];omega)];simp;omega
@[simp] theorem ZEe (l:List Nat):std.lenF l=l.length:=rfl
@[simp] theorem ZEc (l:List Nat) (j:Nat):std.nthF l j=l.getD j 0:=rfl
@[simp] theorem ZDP (l:List Nat) (j x:Nat):std.setF l j x=l.set j x:=rfl
@[simp] theorem ZDO (n x:Nat):std.repF n x=List.replicate n x:=rfl
@[simp] theorem ZEb (a b:List Nat):std.appF a b=a++b:=rfl
section
variable {C:Ctx}(hC:C.P=Try.prog)(m p q:Int)(so:List Int)(h:OkC m p q so)
include hC h
def v0(s:Nat):Int:=if s=0 then 0 else -2000000
end
def bvI(m p q:Int)(so:List Int):Int:=(dpR m p q so (Zaa so)).getD 0 0
def blI(m p q:Int)(so:List Int):List Int:=tbR m p q so (ZaS m so) 0 0
def okI(m p q:Int)(so:List Int):Bool:=decide (ZaA m p q=0)&&decide (sfE m so=0)
theorem okI_iff{m p q:Int}{so:List Int} :okI m p q so=true↔OkC m p q so:=by
 unfold okI;simp only[Bool.and_eq_true,decide_eq_true_eq];exact⟨fun h=>⟨h.1,h.2⟩,fun h=>⟨h.1,h.2⟩⟩
def ZbK(m:Int)(so:List Int):Int:=Zaj so-m
def Zlz(m:Int)(so:List Int):Bool:=decide (so.length≤1000000∧1≤m∧m≤3)
def k108:Ctr:=⟨108,0,fun _ a=>match a with |[.agg (.gen [.int .i64 m, .int .i64 _, .int .i64 _, .list (.ints .i64 so)])]=>some (decide (Zlz m so=true), .int .i64 (ZbK m so),none) |_=>none⟩
theorem Zvv:k108.OK Try.prog:=fun pa args r fr h=>by
 simp only[k108]at h
 split at h
 ·simp only[Option.some.injEq,Prod.mk.injEq,decide_eq_true_eq]at h
  obtain⟨h0,rfl,rfl⟩:=h
  exact Zot _ _ _ _ (of_decide_eq_true h0)
 ·cases h
def k15:Ctr:=⟨15,0,fun _ a=>match a with |[.agg (.gen [.int .i64 m, .int .i64 p, .int .i64 q]), .list (.ints .i64 so)]=>some (true, .int .i64 (cdE m p q so),none) |_=>none⟩
theorem ZyT:k15.OK Try.prog:=fun pa args r fr h=>by
 simp only[k15]at h
 split at h
 ·cases h
  exact ZqI _ _ _ _
 ·cases h
def N5:List Ctr:=[k108,k15]++N4
theorem Zbq:ZaP Try.prog N5:=⟨Zvv,⟨ZyT,Zu9⟩⟩
end Go.Proofs.Ytklbmkllepkjcaa
