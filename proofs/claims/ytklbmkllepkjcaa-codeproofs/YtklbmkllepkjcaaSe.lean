/- Paths of functions, printed by the explorer (Gx). No condition. -/
import Derived.Test.YtklbmkllepkjcaaSb
import Derived.KernelRfl
namespace Go.Proofs.Ytklbmkllepkjcaa
set_option maxRecDepth 100000
set_option linter.unusedVariables false
def ZAq(m g0 g1:Int):AFrame:={ fn:=63,N:=15,env:=[(0,AV.agg (.ints .i64 [m,g0,g1]))],todo:=[.code a63.code],defs:=[],rnd:=none,ret:=false,res:=[ARes.tmp 2] }
def ZHc(m g0 g1:Int):List AFrame:=[(ZAq m g0 g1)]
theorem Zv9(m g0 g1:Int):Zas tab 63 [AV.agg (.ints .i64 [m,g0,g1])]=some (ZAq m g0 g1):=rfl
def Zvr(A:Ar)(K:KT)(F:FT)(m g0 g1:Int):Prop:=rB [Nat.blt 0 (A.len [m,g0,g1]),Nat.blt 0 (A.len [m,g0,g1])] (bB (A.not (Zat (A.nth [m,g0,g1] 0) 1 3)) (F (AV.int .i64 2) (none)) (rB [Zae (Zae (Zae (Nat.ble 3 (A.len [m,g0,g1])) true) true) (decide (List.length (A.sub3 [m,g0,g1] 1 2)≤1000000)),A.inR .i64 (A.sub (A.shl 1 (A.add (A.nth [m,g0,g1] 0) 1)) 1),Zae (Zae (A.le 0 (A.add (A.nth [m,g0,g1] 0) 1)) (Nat.blt (A.nat (A.add (A.nth [m,g0,g1] 0) 1)) 64)) (A.inR .i64 (A.shl 1 (A.add (A.nth [m,g0,g1] 0) 1))),A.inR .i64 (A.add (A.nth [m,g0,g1] 0) 1),Nat.blt 0 (A.len [m,g0,g1])] (F (AV.int .i64 (Zbs (A.sub3 [m,g0,g1] 1 2) 1 (A.sub (A.shl 1 (A.add (A.nth [m,g0,g1] 0) 1)) 1))) (none))))
theorem ZED{A:Ar}{K:KT}{F:FT}{M:MT}{m g0 g1:Int} :Zap A tab N2 63 K F M (.run 13 (.tf (.run 5 (.fn)) (.run 5 (.fn)))) (ZHc m g0 g1) []=Zvr A K F m g0 g1:=by kernel_rfl
def ZCP(m g0 g1:Int):AFrame:={ fn:=28,N:=29,env:=[(0,AV.agg (.ints .i64 [m,g0,g1]))],todo:=[.code a28.code],defs:=[],rnd:=none,ret:=false,res:=[ARes.tmp 2] }
def ZG9(m g0 g1:Int):List AFrame:=[(ZCP m g0 g1)]
theorem Zyh(m g0 g1:Int):Zas tab 28 [AV.agg (.ints .i64 [m,g0,g1])]=some (ZCP m g0 g1):=rfl
def Zvw(A:Ar)(K:KT)(F:FT)(m g0 g1:Int):Prop:=rB [Nat.blt 0 (A.len [m,g0,g1])] (qB [A.not (Zat (A.nth [m,g0,g1] 0) 1 3),Nat.blt 0 (A.len [m,g0,g1])] (F (AV.int .i64 2) (none)) (qB [A.not (Zat (A.nth [m,g0,g1] 1) 1 (A.sub (A.shl 2 (A.nth [m,g0,g1] 0)) 1)),A.inR .i64 (A.sub (A.shl 2 (A.nth [m,g0,g1] 0)) 1),Zae (Zae (A.le 0 (A.nth [m,g0,g1] 0)) (Nat.blt (A.nat (A.nth [m,g0,g1] 0)) 64)) (A.inR .i64 (A.shl 2 (A.nth [m,g0,g1] 0))),Nat.blt 0 (A.len [m,g0,g1]),Nat.blt 1 (A.len [m,g0,g1]),!A.not (Zat (A.nth [m,g0,g1] 0) 1 3),Nat.blt 0 (A.len [m,g0,g1])] (F (AV.int .i64 2) (none)) (rB [A.inR .i64 (A.sub (A.shl 2 (A.nth [m,g0,g1] 0)) 1),Zae (Zae (A.le 0 (A.nth [m,g0,g1] 0)) (Nat.blt (A.nat (A.nth [m,g0,g1] 0)) 64)) (A.inR .i64 (A.shl 2 (A.nth [m,g0,g1] 0))),Nat.blt 0 (A.len [m,g0,g1]),Nat.blt 2 (A.len [m,g0,g1]),!A.not (Zat (A.nth [m,g0,g1] 1) 1 (A.sub (A.shl 2 (A.nth [m,g0,g1] 0)) 1)),A.inR .i64 (A.sub (A.shl 2 (A.nth [m,g0,g1] 0)) 1),Zae (Zae (A.le 0 (A.nth [m,g0,g1] 0)) (Nat.blt (A.nat (A.nth [m,g0,g1] 0)) 64)) (A.inR .i64 (A.shl 2 (A.nth [m,g0,g1] 0))),Nat.blt 0 (A.len [m,g0,g1]),Nat.blt 1 (A.len [m,g0,g1]),!A.not (Zat (A.nth [m,g0,g1] 0) 1 3),Nat.blt 0 (A.len [m,g0,g1])] (bB (A.not (Zat (A.nth [m,g0,g1] 2) 1 (A.sub (A.shl 2 (A.nth [m,g0,g1] 0)) 1))) (F (AV.int .i64 2) (none)) (F (AV.int .i64 0) (none))))))
theorem ZDz{A:Ar}{K:KT}{F:FT}{M:MT}{m g0 g1:Int} :Zap A tab N2 28 K F M (.run 7 (.alt [true,true] (.run 1 (.ty (.run 5 (.fn)))) (.alt [false,true] (.run 1 (.ty (.run 5 (.fn)))) (.alt [false,false] (.run 1 (.tf (.run 5 (.fn)) (.run 6 (.fn)))) (.no))))) (ZG9 m g0 g1) []=Zvw A K F m g0 g1:=by kernel_rfl
def ZBz(m g0 g1:Int)(xs:List Int):AFrame:={ fn:=64,N:=30,env:=[(0,AV.agg (.ints .i64 [m,g0,g1])),(1,AV.list (.ints .i64 xs))],todo:=[.code a64.code],defs:=[],rnd:=none,ret:=false,res:=[ARes.tmp 4] }
def ZHj(m g0 g1:Int)(xs:List Int):List AFrame:=[(ZBz m g0 g1 xs)]
theorem Zwt(m g0 g1:Int)(xs:List Int):Zas tab 64 [AV.agg (.ints .i64 [m,g0,g1]),AV.list (.ints .i64 xs)]=some (ZBz m g0 g1 xs):=rfl
def ZyI(A:Ar)(K:KT)(F:FT)(m g0 g1:Int)(xs:List Int):Prop:=rB [Nat.blt 0 (A.len [m,g0,g1])] (qB [decide (List.length [Zay (A.le (Go.IntKind.wrap .i64 (A.mul 2 (A.nth [m,g0,g1] 0))) (A.int (A.len xs))) 10,Zay (A.le (A.int (A.len xs)) (Go.IntKind.wrap .i64 (A.mul 2 (Go.IntKind.wrap .i64 (A.add 300 (A.nth [m,g0,g1] 0)))))) 8,Zbs xs (-7) 7]≤1000000),List.all [AV.int .i64 (Zay (A.le (Go.IntKind.wrap .i64 (A.mul 2 (A.nth [m,g0,g1] 0))) (A.int (A.len xs))) 10),AV.int .i64 (Zay (A.le (A.int (A.len xs)) (Go.IntKind.wrap .i64 (A.mul 2 (Go.IntKind.wrap .i64 (A.add 300 (A.nth [m,g0,g1] 0)))))) 8),AV.int .i64 (Zbs xs (-7) 7)] fun x=>AV.bx x&&Nat.beq (Zao A x) 1,decide (List.length xs≤1000000),Nat.blt 0 (A.len [m,g0,g1]),Nat.blt 0 (A.len [m,g0,g1]),A.eq (A.rem (A.int (A.len xs)) 2) 0,A.not (A.eq 2 0)] (F (AV.int .i64 (Za5 [Zay (A.le (Go.IntKind.wrap .i64 (A.mul 2 (A.nth [m,g0,g1] 0))) (A.int (A.len xs))) 10,Zay (A.le (A.int (A.len xs)) (Go.IntKind.wrap .i64 (A.mul 2 (Go.IntKind.wrap .i64 (A.add 300 (A.nth [m,g0,g1] 0)))))) 8,Zbs xs (-7) 7])) (none)) (rB [decide (List.length [10,Zay (A.le (A.int (A.len xs)) (Go.IntKind.wrap .i64 (A.mul 2 (Go.IntKind.wrap .i64 (A.add 300 (A.nth [m,g0,g1] 0)))))) 8,Zbs xs (-7) 7]≤1000000),List.all [AV.int .i64 10,AV.int .i64 (Zay (A.le (A.int (A.len xs)) (Go.IntKind.wrap .i64 (A.mul 2 (Go.IntKind.wrap .i64 (A.add 300 (A.nth [m,g0,g1] 0)))))) 8),AV.int .i64 (Zbs xs (-7) 7)] fun x=>AV.bx x&&Nat.beq (Zao A x) 1,decide (List.length xs≤1000000),Nat.blt 0 (A.len [m,g0,g1]),!A.eq (A.rem (A.int (A.len xs)) 2) 0,A.not (A.eq 2 0)] (F (AV.int .i64 (Za5 [10,Zay (A.le (A.int (A.len xs)) (Go.IntKind.wrap .i64 (A.mul 2 (Go.IntKind.wrap .i64 (A.add 300 (A.nth [m,g0,g1] 0)))))) 8,Zbs xs (-7) 7])) (none))))
theorem ZEP{A:Ar}{K:KT}{F:FT}{M:MT}{m g0 g1:Int}{xs:List Int} :Zap A tab N2 64 K F M (.run 6 (.tf (.run 2 (.fn)) (.run 2 (.fn)))) (ZHj m g0 g1 xs) []=ZyI A K F m g0 g1 xs:=by kernel_rfl
def ZCD(m g0 g1:Int)(xs:List Int):AFrame:={ fn:=66,N:=26,env:=[(0,AV.agg (.ints .i64 [m,g0,g1])),(1,AV.list (.ints .i64 xs))],todo:=[.code a66.code],defs:=[],rnd:=none,ret:=false,res:=[ARes.tmp 4] }
def ZHl(m g0 g1:Int)(xs:List Int):List AFrame:=[(ZCD m g0 g1 xs)]
theorem ZvN(m g0 g1:Int)(xs:List Int):Zas tab 66 [AV.agg (.ints .i64 [m,g0,g1]),AV.list (.ints .i64 xs)]=some (ZCD m g0 g1 xs):=rfl
def ZBW(A:Ar)(K:KT)(F:FT)(m g0 g1:Int)(xs:List Int):Prop:=rB [A.not (A.eq 2 0),Nat.blt 0 (A.len [m,g0,g1])] (bB (A.not (A.eq (A.rem (A.int (A.len xs)) 2) 0)) (F (AV.int .i64 10) (none)) (rB [Nat.blt 0 (A.len [m,g0,g1])] (rB [A.inR .i64 (A.mul 2 (A.nth [m,g0,g1] 0))] (bB (A.lt (A.int (A.len xs)) (A.mul 2 (A.nth [m,g0,g1] 0))) (F (AV.int .i64 10) (none)) (rB [A.inR .i64 (A.mul 2 (A.add 300 (A.nth [m,g0,g1] 0))),A.inR .i64 (A.add 300 (A.nth [m,g0,g1] 0)),Nat.blt 0 (A.len [m,g0,g1])] (bB (A.lt (A.mul 2 (A.add 300 (A.nth [m,g0,g1] 0))) (A.int (A.len xs))) (F (AV.int .i64 8) (none)) (rB [decide (List.length xs≤1000000)] (F (AV.int .i64 (Zbs xs (-7) 7)) (none)))))))))
theorem ZDL{A:Ar}{K:KT}{F:FT}{M:MT}{m g0 g1:Int}{xs:List Int} :Zap A tab N2 66 K F M (.run 13 (.tf (.ty (.ty (.ty (.ty (.ty (.ty (.run 2 (.ty (.run 5 (.fn)))))))))) (.fy (.fy (.fy (.fy (.fy (.fy (.run 2 (.tf (.run 5 (.fn)) (.run 13 (.tf (.run 5 (.fn)) (.run 8 (.fn)))))))))))))) (ZHl m g0 g1 xs) []=ZBW A K F m g0 g1 xs:=by kernel_rfl
def ZAV(m g0 g1 s b:Int):AFrame:={ fn:=82,N:=35,env:=[(0,AV.agg (.ints .i64 [m,g0,g1])),(1,AV.int .i64 s),(2,AV.int .i64 b)],todo:=[.code a82.code],defs:=[],rnd:=none,ret:=false,res:=[ARes.tmp 6,ARes.cell 7 true 2] }
def ZHL(m g0 g1 s b:Int):List AFrame:=[(ZAV m g0 g1 s b)]
theorem Zwp(m g0 g1 s b:Int):Zas tab 82 [AV.agg (.ints .i64 [m,g0,g1]),AV.int .i64 s,AV.int .i64 b]=some (ZAV m g0 g1 s b):=rfl
def Zdb(n0:Int)(l1:List Int)(n2:Int)(l3:List Int):List AFrame:=[{ fn:=82,N:=35,env:=[(7,AV.ptr 82008 0 0 0),(8,AV.int .i64 n0),(18,AV.agg (.ints .i64 l1)),(19,AV.int .i64 n2)],todo:=.code (ACode.gh [] ZBJ)::ZDY,defs:=[],rnd:=none,ret:=false,res:=[ARes.tmp 6,ARes.cell 7 true 2] }]
def Zcq(n0:Int)(l1:List Int)(n2:Int)(l3:List Int):Zac:=[(82008,{ base:=0,blks:=[Blk.row 22 2 (Row.gen [.agg (.ints .i64 l3)])] })]
abbrev Zjf(n0:Int)(l1:List Int)(n2:Int)(l3:List Int):List AFrame×Zac:=(Zdb n0 l1 n2 l3,Zcq n0 l1 n2 l3)
def ZzX(A:Ar)(K:KT)(F:FT)(m g0 g1 s b:Int):Prop:=rB [Nat.ble 3 (A.len [m,g0,g1]),Zae (Zae (A.le 0 (A.nth [m,g0,g1] 0)) (Nat.blt (A.nat (A.nth [m,g0,g1] 0)) 64)) (A.inR .i64 (A.shl b (A.nth [m,g0,g1] 0))),Nat.blt 0 (A.len [m,g0,g1]),Nat.blt 0 (A.len [0,0]),Nat.blt 0 (A.len [m,g0,g1])] (K (Zjf (A.bits Go.BinOp.or .i64 (A.shl b (A.nth [m,g0,g1] 0)) s) (A.sub3 [m,g0,g1] 1 2) (0) ([0,0])))
theorem ZEI{A:Ar}{K:KT}{F:FT}{M:MT}{m g0 g1 s b:Int} :Zap A tab N2 82 K F M (.run 27 (.hd)) (ZHL m g0 g1 s b) []=ZzX A K F m g0 g1 s b:=by kernel_rfl
def ZdH(A:Ar)(K:KT)(F:FT)(n0:Int)(l1:List Int)(n2:Int)(l3:List Int):Prop:=bB (A.lt n2 2) (rB [A.inR .i64 (A.add n2 1),Nat.blt (0+A.nat n2) 2,Zae (A.le 0 n2) (A.lt n2 (A.int 2)),A.not (A.eq 2 0),decide (0≤A.bits Go.BinOp.and .i64 n0 (A.nth l1 (A.nat n2))∧A.bits Go.BinOp.and .i64 n0 (A.nth l1 (A.nat n2))≤15),A.inR .u64 (A.bits Go.BinOp.and .i64 n0 (A.nth l1 (A.nat n2))),Zae (Zae (A.le 0 n2) (A.lt n2 (A.int 2))) (Nat.blt (A.nat n2) (A.len l1))] (K (Zjf (n0) (l1) (A.add n2 1) (A.set l3 (0+A.nat n2) (A.rem (↑(Zph (Int.toNat (A.bits Go.BinOp.and .i64 n0 (A.nth l1 (A.nat n2)))))) 2))))) (rB [Nat.beq (A.len (A.sub3 l3 0 2)) 2,Nat.ble 2 (A.len l3),Zae (A.le 0 1) (Nat.blt (A.nat 1) 64)] (rB [Zae (Zae (Nat.ble 2 (A.len (A.sub3 l3 0 2))) true) true] (F (AV.tup [AV.int .i64 (A.shr n0 1),AV.agg (.ints .i64 (A.sub3 (A.sub3 l3 0 2) 0 2))]) (none))))
theorem Zga{A:Ar}{K:KT}{F:FT}{M:MT}{n0:Int}{l1:List Int}{n2:Int}{l3:List Int} :Zap A tab N2 82 K F M (.run 6 (.tf (.run 28 (.hd)) (.run 4 (.fn)))) (Zdb n0 l1 n2 l3) (Zcq n0 l1 n2 l3)=ZdH A K F n0 l1 n2 l3:=by kernel_rfl
def ZCn(m g0 g1 s b:Int):AFrame:={ fn:=68,N:=28,env:=[(0,AV.agg (.ints .i64 [m,g0,g1])),(1,AV.int .i64 s),(2,AV.int .i64 b)],todo:=[.code a68.code],defs:=[],rnd:=none,ret:=false,res:=[ARes.tmp 6,ARes.cell 7 true 2] }
def ZGz(m g0 g1 s b:Int):List AFrame:=[(ZCn m g0 g1 s b)]
theorem Zxo(m g0 g1 s b:Int):Zas tab 68 [AV.agg (.ints .i64 [m,g0,g1]),AV.int .i64 s,AV.int .i64 b]=some (ZCn m g0 g1 s b):=rfl
def ZAR(A:Ar)(K:KT)(F:FT)(m g0 g1 s b:Int):Prop:=rB [Nat.beq (A.len (A.set (A.set [0,0] 0 (Zpw (A.add (A.shl b (A.nth [m,g0,g1] 0)) s) (A.nth [m,g0,g1] 1))) 1 (Zpw (A.add (A.shl b (A.nth [m,g0,g1] 0)) s) (A.nth [m,g0,g1] 2)))) 2,Zae (Nat.ble 1 (A.len [0,0])) (Zae (Nat.ble 2 (A.len (A.set [0,0] 0 (Zpw (A.add (A.shl b (A.nth [m,g0,g1] 0)) s) (A.nth [m,g0,g1] 1))))) true),decide ((0≤A.add (A.shl b (A.nth [m,g0,g1] 0)) s∧A.add (A.shl b (A.nth [m,g0,g1] 0)) s≤15)∧0≤A.nth [m,g0,g1] 2∧A.nth [m,g0,g1] 2≤15),Nat.blt 2 (A.len [m,g0,g1]),decide ((0≤A.add (A.shl b (A.nth [m,g0,g1] 0)) s∧A.add (A.shl b (A.nth [m,g0,g1] 0)) s≤15)∧0≤A.nth [m,g0,g1] 1∧A.nth [m,g0,g1] 1≤15),Nat.blt 1 (A.len [m,g0,g1]),Zae (A.not (A.eq 2 0)) (A.inR .i64 (A.quo (A.add (A.shl b (A.nth [m,g0,g1] 0)) s) 2)),A.inR .i64 (A.add (A.shl b (A.nth [m,g0,g1] 0)) s),Zae (Zae (A.le 0 (A.nth [m,g0,g1] 0)) (Nat.blt (A.nat (A.nth [m,g0,g1] 0)) 64)) (A.inR .i64 (A.shl b (A.nth [m,g0,g1] 0))),Nat.blt 0 (A.len [m,g0,g1]),Nat.blt 0 (A.len [0,0]),Nat.blt 0 (A.len [m,g0,g1])] (rB [Zae (Zae (Nat.ble 2 (A.len (A.set (A.set [0,0] 0 (Zpw (A.add (A.shl b (A.nth [m,g0,g1] 0)) s) (A.nth [m,g0,g1] 1))) 1 (Zpw (A.add (A.shl b (A.nth [m,g0,g1] 0)) s) (A.nth [m,g0,g1] 2))))) true) true] (F (AV.tup [AV.int .i64 (A.quo (A.add (A.shl b (A.nth [m,g0,g1] 0)) s) 2),AV.agg (.ints .i64 (A.sub3 (A.set (A.set [0,0] 0 (Zpw (A.add (A.shl b (A.nth [m,g0,g1] 0)) s) (A.nth [m,g0,g1] 1))) 1 (Zpw (A.add (A.shl b (A.nth [m,g0,g1] 0)) s) (A.nth [m,g0,g1] 2))) 0 2))]) (none)))
theorem ZE1{A:Ar}{K:KT}{F:FT}{M:MT}{m g0 g1 s b:Int} :Zap A tab N2 68 K F M (.run 21 (.fn)) (ZGz m g0 g1 s b) []=ZAR A K F m g0 g1 s b:=by kernel_rfl
end Go.Proofs.Ytklbmkllepkjcaa
/- Contracts as a list. No condition. -/
namespace Go.Proofs.Ytklbmkllepkjcaa
def ZaE(m p q:Int):Int:=if ¬(1≤m∧m≤3)then 2 else if(1≤p∧p≤2*stN m-1)∧(1≤q∧q≤2*stN m-1)then 0 else 2
theorem Zaj{m p q:Int}(h:ZaE m p q=0):(m=1∨m=2∨m=3)∧1≤p∧p≤2*stN m-1∧1≤q∧q≤2*stN m-1∧p≤15∧q≤15:=by
 unfold ZaE at h
 split at h
 ·cases h
 ·rename_i h1
  split at h
  ·rename_i h2
   have h3:=Zgm (show 1≤m∧m≤3 by omega)
   exact⟨by omega,by omega,by omega,by omega,by omega,by omega,by omega⟩
  ·cases h
theorem ZkN(m p q:Int):Zai Try.prog 28 [.agg (.ints .i64 [m,p,q])] (.int .i64 (ZaE m p q)) none:=
 start (Zyh m p q) fun C hC=>tgo hC Zh9 ZDz (by
  by_cases h1:1≤m∧m≤3
  ·have h3:=Zgm h1
   have hm:0≤m∧m≤64:=by omega
   have hw:Zat m 1 3=true:=decide_eq_true h1
   have e:(2:Int)*2^m.toNat=2*stN m:=rfl
   simp only[Zvw,Zmp,List.getD_cons_zero,List.getD_cons_succ,ZrJ,e,ZvM]
   cases hp:Zat p 1 (2*stN m-1)with
   |false=>
    have:¬(1≤p∧p≤2*stN m-1):=of_decide_eq_false hp
    simp[ZmC,hw,hp,ZaE,h1,this];omega
   |true=>
    have hp2:1≤p∧p≤2*stN m-1:=of_decide_eq_true hp
    cases hq:Zat q 1 (2*stN m-1)with
    |false=>
     have:¬(1≤q∧q≤2*stN m-1):=of_decide_eq_false hq
     simp[ZmC,hw,hp,hq,ZaE,h1,hp2,this];omega
    |true=>
     have hq2:1≤q∧q≤2*stN m-1:=of_decide_eq_true hq
     simp[ZmC,hw,hp,hq,ZaE,h1,hp2,hq2];omega
  ·have hw:Zat m 1 3=false:=decide_eq_false h1
   simp[Zvw,ZmC,hw,ZaE,h1])
theorem Zkx(m p q:Int):Zai Try.prog 63 [.agg (.ints .i64 [m,p,q])] (.int .i64 (ZaE m p q)) none:=
 start (Zv9 m p q) fun C hC=>tgo hC Zh9 ZED (by
  by_cases h1:1≤m∧m≤3
  ·have h3:=Zgm h1
   have hw:Zat m 1 3=true:=decide_eq_true h1
   have e:(1:Int)*2^(m+1).toNat=2*stN m:=by
    rw[show (m+1).toNat=m.toNat+1 by omega,Int.pow_succ,Int.one_mul,Int.mul_comm];rfl
   simp only[Zvr,Zmp,List.getD_cons_zero,ZoE,ZrJ,e,ZvM,Zu2]
   have hr:Zbs [p,q] 1 (2*stN m-1)=ZaE m p q:=by
    have hc:ZaE m p q=if(1≤p∧p≤2*stN m-1)∧(1≤q∧q≤2*stN m-1)then 0 else 2:=by
     unfold ZaE;rw[if_neg (fun h=>h h1)]
    rw[hc]
    unfold Zbs
    by_cases h2:(1≤p∧p≤2*stN m-1)∧(1≤q∧q≤2*stN m-1)
    ·rw[if_pos h2,if_pos (by simp[Zat,h2])]
    ·rw[if_neg h2,if_neg (fun h=>h2 (by simpa[Zat]using h))]
   simp[hw,hr];omega
  ·have hw:Zat m 1 3=false:=decide_eq_false h1
   simp[Zvr,hw,ZaE,h1])
def Zpd(m s b:Int):Int:=b*stN m+s
def nxS(m s b:Int):Int:=Zpd m s b/2
def oS(m g s b:Int):Int:=Zpw (Zpd m s b) g
theorem ZjY(r k:Nat)(hr:r≤15)(hk:k≤15):std.bits .or .i64 (r:Int) (k:Int)=((r ||| k:Nat):Int):=by
 have h1:∀m:Nat,m≤15→(BitVec.ofInt 64 (m:Int)).toNat=m:=fun m hm=>by
  rw[BitVec.ofInt_natCast,BitVec.toNat_ofNat];exact Nat.mod_eq_of_lt (by omega)
 show IntKind.i64.wrap ((BitVec.ofInt 64 (r:Int) ||| BitVec.ofInt 64 (k:Int)).toNat:Int)=_
 rw[BitVec.toNat_or,h1 r hr,h1 k hk]
 have:r ||| k<2^4:=Nat.or_lt_two_pow (by omega) (by omega)
 rw[IntKind.wrap_i64]
 omega
def Zcb(m p q s b:Int):Bool:=decide (ZaE m p q=0∧0≤s∧s<stN m∧(b=0∨b=1))
theorem ZnZ{m s b:Int}(hm:m=1∨m=2∨m=3)(hs:0≤s∧s<stN m)(hb:b=0∨b=1):0≤Zpd m s b∧Zpd m s b≤15∧0≤nxS m s b∧nxS m s b<stN m∧Zpd m s b<2*stN m:=by
 unfold nxS Zpd
 rcases hm with rfl |rfl |rfl<;>rcases hb with rfl |rfl<;>simp[stN]at hs⊢ <;>omega
theorem ZqE:∀m,m<4→∀B,B<2→∀S,S<8→S<2^m→B*2^m ||| S=B*2^m+S:=by decide
theorem ZBB{m s b:Int}(hm:m=1∨m=2∨m=3)(hs:0≤s∧s<stN m)(hb:b=0∨b=1):std.bits .or .i64 (b*2^m.toNat) s=Zpd m s b:=by
 obtain⟨S,rfl⟩:=Int.eq_ofNat_of_zero_le hs.1
 have hS:=hs.2
 unfold Zpd
 rcases hm with rfl |rfl |rfl<;>rcases hb with rfl |rfl<;>simp[stN]at hS⊢
 all_goals
  first
  |(have:=ZjY 0 S (by omega) (by omega);simpa using this)
  |(have:=ZjY 2 S (by omega) (by omega);have h2:=ZqE 1 (by omega) 1 (by omega) S (by omega) (by omega);simp at h2;rw[h2]at this;simpa using this)
  |(have:=ZjY 4 S (by omega) (by omega);have h2:=ZqE 2 (by omega) 1 (by omega) S (by omega) (by omega);simp at h2;rw[h2]at this;simpa using this)
  |(have:=ZjY 8 S (by omega) (by omega);have h2:=ZqE 3 (by omega) 1 (by omega) S (by omega) (by omega);simp at h2;rw[h2]at this;simpa using this)
theorem Zlj{m:Int}(hm:m=1∨m=2∨m=3):(2:Int)^m.toNat≤8∧2≤(2:Int)^m.toNat:=by
 rcases hm with rfl |rfl |rfl<;>decide
theorem Zlx(m p q s b:Int)(hv:ZaE m p q=0)(hs:0≤s∧s<stN m)(hb:b=0∨b=1):Zai Try.prog 68 [.agg (.ints .i64 [m,p,q]), .int .i64 s, .int .i64 b] (.tup [.int .i64 (nxS m s b), .agg (.ints .i64 [oS m p s b,oS m q s b])]) none:=
 start (Zxo m p q s b) fun C hC=>tgo hC Zh9 ZE1 (by
  obtain⟨hm,p1,p2,q1,q2,p3,q3⟩:=Zaj hv
  obtain⟨r0,r1,r2,r3,r4⟩:=ZnZ hm hs hb
  have hw:=Zlj hm
  have hst:=Zgm (m:=m) (by omega)
  have hb2:0≤b*2^m.toNat∧b*2^m.toNat≤8:=by rcases hb with rfl |rfl<;>omega
  have e:b*2^m.toNat+s=Zpd m s b:=rfl
  simp only[ZAR,Zmp,List.getD_cons_zero,List.getD_cons_succ,ZrJ,ZoE,e,Zn6]
  have hd:(Zpd m s b).tdiv 2=nxS m s b:=Int.tdiv_eq_ediv_of_nonneg r0
  rw[hd]
  simp[oS]
  omega)
theorem Zko(m p q s b:Int)(hv:ZaE m p q=0)(hs:0≤s∧s<stN m)(hb:b=0∨b=1):Zai Try.prog 82 [.agg (.ints .i64 [m,p,q]), .int .i64 s, .int .i64 b] (.tup [.int .i64 (nxS m s b), .agg (.ints .i64 [oS m p s b,oS m q s b])]) none:=by
 obtain⟨hm,p1,p2,q1,q2,p3,q3⟩:=Zaj hv
 obtain⟨r0,r1,r2,r3,r4⟩:=ZnZ hm hs hb
 have hw:=Zlj hm
 have hb2:0≤b*2^m.toNat∧b*2^m.toNat≤8:=by rcases hb with rfl |rfl<;>omega
 have ho:=ZBB hm hs hb
 obtain⟨R,hR⟩:=Int.eq_ofNat_of_zero_le r0
 obtain⟨P,rfl⟩:=Int.eq_ofNat_of_zero_le (show 0≤p by omega)
 obtain⟨Q,rfl⟩:=Int.eq_ofNat_of_zero_le (show 0≤q by omega)
 have b0:∀k:Nat,k≤15→0≤std.bits .and .i64 (R:Int) (k:Int)∧std.bits .and .i64 (R:Int) (k:Int)≤15:=fun k hk=>by
  rw[ZjS R k (by omega) hk];have:= @Nat.and_le_left R k;omega
 have u0:∀k:Nat,k≤15→std.inR .u64 (std.bits .and .i64 (R:Int) (k:Int))=true:=fun k hk=>by
  have:=b0 k hk
  exact decide_eq_true ⟨by show(0:Int)≤_;omega,by show _≤(18446744073709551615:Int);omega⟩
 have hk:∀k:Nat,k≤15→Int.tmod ((Zph (Int.toNat (std.bits .and .i64 (R:Int) (k:Int))):Nat):Int) 2=oS m k s b:=fun k hk=>by
  rw[ZjS R k (by omega) hk,oS,hR];rfl
 refine start (Zwp m P Q s b) fun C hC=>tgo hC Zh9 ZEI ?_
 simp only[ZzX,Zmp,List.getD_cons_zero,ZrJ,ho,hR,Zu2]
 have two:Ev C (Zdb R [(P:Int),(Q:Int)] (2:Nat) [oS m P s b,oS m Q s b]) (Zcq R [(P:Int),(Q:Int)] (2:Nat) [oS m P s b,oS m Q s b]) (ZaX 82 (.tup [.int .i64 (nxS m s b), .agg (.ints .i64 [oS m P s b,oS m Q s b])]) none):=tgo hC Zh9 Zga (by
  have:nxS m s b=(R:Int).fdiv 2:=by unfold nxS;rw[hR,Int.fdiv_eq_ediv];simp
  simp[ZdH,this])
 have one:Ev C (Zdb R [(P:Int),(Q:Int)] (1:Nat) [oS m P s b,0]) (Zcq R [(P:Int),(Q:Int)] (1:Nat) [oS m P s b,0]) (ZaX 82 (.tup [.int .i64 (nxS m s b), .agg (.ints .i64 [oS m P s b,oS m Q s b])]) none):=tgo hC Zh9 Zga (by
  simp[ZdH,b0 Q (by omega),u0 Q (by omega),hk Q (by omega)]
  simpa using two)
 have zero:Ev C (Zdb R [(P:Int),(Q:Int)] (0:Nat) [0,0]) (Zcq R [(P:Int),(Q:Int)] (0:Nat) [0,0]) (ZaX 82 (.tup [.int .i64 (nxS m s b), .agg (.ints .i64 [oS m P s b,oS m Q s b])]) none):=tgo hC Zh9 Zga (by
  simp[ZdH,b0 P (by omega),u0 P (by omega),hk P (by omega)]
  simpa using one)
 simp
 exact⟨by omega,by simpa using zero⟩
def sfE(m:Int)(so:List Int):Int:=if so.length%2≠0∨(so.length:Int)<2*m then 10 else if 2*(300+m)<(so.length:Int)then 8 else Zbs so (-7) 7
theorem Zlq(m p q:Int)(so:List Int)(hm:1≤m∧m≤3):Zai Try.prog 66 [.agg (.ints .i64 [m,p,q]), .list (.ints .i64 so)] (.int .i64 (sfE m so)) none:=
 start (ZvN m p q so) fun C hC=>tgo hC Zh9 ZDL (by
  have ht:((so.length:Nat):Int).tmod 2=((so.length%2:Nat):Int):=rfl
  simp only[ZBW,Zmp,List.getD_cons_zero,Zyf,ZoE,ZoJ,Zoh,ZxM,ht]
  by_cases h1:so.length%2=0
  ·by_cases h2:(so.length:Int)<2*m
   ·simp[h1,h2,sfE];omega
   ·by_cases h4:2*(300+m)<so.length
    ·simp[h1,h2,h4,sfE];omega
    ·have h:so.length≤1000000:=by omega
     simp[h1,h2,h4,sfE,h];omega
  ·have h1':¬(so.length:Int)%2=0:=by omega
   simp[h1,h1',sfE])
def sfW(m:Int)(so:List Int):Int:=
 Za5 [if so.length%2=0 then Zay (decide (IntKind.i64.wrap (2*m)≤so.length)) 10 else 10,Zay (decide ((so.length:Int)≤IntKind.i64.wrap (2*IntKind.i64.wrap (300+m)))) 8,Zbs so (-7) 7]
theorem Zkq(m p q:Int)(so:List Int)(h:so.length≤1000000):Zai Try.prog 64 [.agg (.ints .i64 [m,p,q]), .list (.ints .i64 so)] (.int .i64 (sfW m so)) none:=
 start (Zwt m p q so) fun C hC=>tgo hC Zh9 ZEP (by
  have ht:((so.length:Nat):Int).tmod 2=((so.length%2:Nat):Int):=rfl
  simp only[ZyI,Zmp,List.getD_cons_zero,Zyf,ZoE,ZoJ,Zoh,ZxM,ht]
  by_cases h1:so.length%2=0
  ·simp[ZmC,h1,sfW,AV.bx,Zao,h]
  ·have h1':¬(so.length:Int)%2=0:=by omega
   simp[ZmC,h1,h1',sfW,AV.bx,Zao,h])
theorem ZmT{m:Int}{so:List Int}(hm:1≤m∧m≤3):sfW m so=sfE m so:=by
 have w1:IntKind.i64.wrap (2*m)=2*m:=by rw[IntKind.wrap_i64];omega
 have w2:IntKind.i64.wrap (300+m)=300+m:=by rw[IntKind.wrap_i64];omega
 have w3:IntKind.i64.wrap (2*(300+m))=2*(300+m):=by rw[IntKind.wrap_i64];omega
 rw[sfW,sfE,w1,w2,w3]
 by_cases h1:so.length%2=0
 ·by_cases h2:(so.length:Int)<2*m
  ·have:¬(2*m≤so.length):=by omega
   simp[h1,h2,this,Za5,Zay]
  ·have h2':2*m≤so.length:=by omega
   by_cases h4:2*(300+m)<so.length
   ·have:¬((so.length:Int)≤2*(300+m)):=by omega
    simp[h1,h2,h2',h4,this,Za5,Zay]
   ·have:(so.length:Int)≤2*(300+m):=by omega
    simp only[h1,h2,h2',h4,this,Za5,Zay]
    simp
    exact fun e=>e.symm
 ·simp[h1,Za5]
def k28i:Ctr:=⟨28,0,fun _ a=>match a with |[.agg (.ints .i64 [m,p,q])]=>some (true, .int .i64 (ZaE m p q),none) |_=>none⟩
theorem ZwN:k28i.OK Try.prog:=fun pa args r fr h=>by
 simp only[k28i]at h
 split at h
 ·cases h
  exact ZkN _ _ _
 ·cases h
def k28g:Ctr:=⟨28,0,fun _ a=>match a with |[.agg (.gen [.int .i64 m, .int .i64 p, .int .i64 q])]=>some (true, .int .i64 (ZaE m p q),none) |_=>none⟩
theorem Zw5:k28g.OK Try.prog:=fun pa args r fr h=>by
 simp only[k28g]at h
 split at h
 ·cases h
  exact ZbZ (xs:=[]) (r:=.ints .i64 [_,_,_]) (ZkN _ _ _) rfl
 ·cases h
def k63i:Ctr:=⟨63,0,fun _ a=>match a with |[.agg (.ints .i64 [m,p,q])]=>some (true, .int .i64 (ZaE m p q),none) |_=>none⟩
theorem ZwS:k63i.OK Try.prog:=fun pa args r fr h=>by
 simp only[k63i]at h
 split at h
 ·cases h
  exact Zkx _ _ _
 ·cases h
def k63g:Ctr:=⟨63,0,fun _ a=>match a with |[.agg (.gen [.int .i64 m, .int .i64 p, .int .i64 q])]=>some (true, .int .i64 (ZaE m p q),none) |_=>none⟩
theorem ZxF:k63g.OK Try.prog:=fun pa args r fr h=>by
 simp only[k63g]at h
 split at h
 ·cases h
  exact ZbZ (xs:=[]) (r:=.ints .i64 [_,_,_]) (Zkx _ _ _) rfl
 ·cases h
def k68i:Ctr:=⟨68,0,fun _ a=>match a with |[.agg (.ints .i64 [m,p,q]), .int .i64 s, .int .i64 b]=>some (decide (Zcb m p q s b=true), .tup [.int .i64 (nxS m s b), .agg (.ints .i64 [oS m p s b,oS m q s b])],none) |_=>none⟩
theorem ZwM:k68i.OK Try.prog:=fun pa args r fr h=>by
 simp only[k68i]at h
 split at h
 ·simp only[Option.some.injEq,Prod.mk.injEq,decide_eq_true_eq]at h
  obtain⟨h0,rfl,rfl⟩:=h
  exact Zlx _ _ _ _ _ (of_decide_eq_true h0).1 ⟨(of_decide_eq_true h0).2.1,(of_decide_eq_true h0).2.2.1⟩ (of_decide_eq_true h0).2.2.2
 ·cases h
def k68g:Ctr:=⟨68,0,fun _ a=>match a with |[.agg (.gen [.int .i64 m, .int .i64 p, .int .i64 q]), .int .i64 s, .int .i64 b]=>some (decide (Zcb m p q s b=true), .tup [.int .i64 (nxS m s b), .agg (.ints .i64 [oS m p s b,oS m q s b])],none) |_=>none⟩
theorem Zw4:k68g.OK Try.prog:=fun pa args r fr h=>by
 simp only[k68g]at h
 split at h
 ·simp only[Option.some.injEq,Prod.mk.injEq,decide_eq_true_eq]at h
  obtain⟨h0,rfl,rfl⟩:=h
  exact ZbZ (xs:=[]) (r:=.ints .i64 [_,_,_]) (Zlx _ _ _ _ _ (of_decide_eq_true h0).1 ⟨(of_decide_eq_true h0).2.1,(of_decide_eq_true h0).2.2.1⟩ (of_decide_eq_true h0).2.2.2) rfl
 ·cases h
def k82i:Ctr:=⟨82,0,fun _ a=>match a with |[.agg (.ints .i64 [m,p,q]), .int .i64 s, .int .i64 b]=>some (decide (Zcb m p q s b=true), .tup [.int .i64 (nxS m s b), .agg (.ints .i64 [oS m p s b,oS m q s b])],none) |_=>none⟩
theorem ZxV:k82i.OK Try.prog:=fun pa args r fr h=>by
 simp only[k82i]at h
 split at h
 ·simp only[Option.some.injEq,Prod.mk.injEq,decide_eq_true_eq]at h
  obtain⟨h0,rfl,rfl⟩:=h
  exact Zko _ _ _ _ _ (of_decide_eq_true h0).1 ⟨(of_decide_eq_true h0).2.1,(of_decide_eq_true h0).2.2.1⟩ (of_decide_eq_true h0).2.2.2
 ·cases h
def k82g:Ctr:=⟨82,0,fun _ a=>match a with |[.agg (.gen [.int .i64 m, .int .i64 p, .int .i64 q]), .int .i64 s, .int .i64 b]=>some (decide (Zcb m p q s b=true), .tup [.int .i64 (nxS m s b), .agg (.ints .i64 [oS m p s b,oS m q s b])],none) |_=>none⟩
theorem Zx0:k82g.OK Try.prog:=fun pa args r fr h=>by
 simp only[k82g]at h
 split at h
 ·simp only[Option.some.injEq,Prod.mk.injEq,decide_eq_true_eq]at h
  obtain⟨h0,rfl,rfl⟩:=h
  exact ZbZ (xs:=[]) (r:=.ints .i64 [_,_,_]) (Zko _ _ _ _ _ (of_decide_eq_true h0).1 ⟨(of_decide_eq_true h0).2.1,(of_decide_eq_true h0).2.2.1⟩ (of_decide_eq_true h0).2.2.2) rfl
 ·cases h
def k66i:Ctr:=⟨66,0,fun _ a=>match a with |[.agg (.ints .i64 [m,_,_]), .list (.ints .i64 so)]=>some (decide (Za7 m=true), .int .i64 (sfE m so),none) |_=>none⟩
theorem Zxn:k66i.OK Try.prog:=fun pa args r fr h=>by
 simp only[k66i]at h
 split at h
 ·simp only[Option.some.injEq,Prod.mk.injEq,decide_eq_true_eq]at h
  obtain⟨h0,rfl,rfl⟩:=h
  exact Zlq _ _ _ _ (of_decide_eq_true h0)
 ·cases h
def k66g:Ctr:=⟨66,0,fun _ a=>match a with |[.agg (.gen [.int .i64 m, .int .i64 _, .int .i64 _]), .list (.ints .i64 so)]=>some (decide (Za7 m=true), .int .i64 (sfE m so),none) |_=>none⟩
theorem Zyb:k66g.OK Try.prog:=fun pa args r fr h=>by
 simp only[k66g]at h
 split at h
 ·simp only[Option.some.injEq,Prod.mk.injEq,decide_eq_true_eq]at h
  obtain⟨h0,rfl,rfl⟩:=h
  exact ZbZ (xs:=[]) (r:=.ints .i64 [_,_,_]) (Zlq _ _ _ _ (of_decide_eq_true h0)) rfl
 ·cases h
def k64i:Ctr:=⟨64,0,fun _ a=>match a with |[.agg (.ints .i64 [m,_,_]), .list (.ints .i64 so)]=>some (decide (so.length≤1000000), .int .i64 (sfW m so),none) |_=>none⟩
theorem ZwZ:k64i.OK Try.prog:=fun pa args r fr h=>by
 simp only[k64i]at h
 split at h
 ·simp only[Option.some.injEq,Prod.mk.injEq,decide_eq_true_eq]at h
  obtain⟨h0,rfl,rfl⟩:=h
  exact Zkq _ _ _ _ h0
 ·cases h
def k64g:Ctr:=⟨64,0,fun _ a=>match a with |[.agg (.gen [.int .i64 m, .int .i64 _, .int .i64 _]), .list (.ints .i64 so)]=>some (decide (so.length≤1000000), .int .i64 (sfW m so),none) |_=>none⟩
theorem ZxQ:k64g.OK Try.prog:=fun pa args r fr h=>by
 simp only[k64g]at h
 split at h
 ·simp only[Option.some.injEq,Prod.mk.injEq,decide_eq_true_eq]at h
  obtain⟨h0,rfl,rfl⟩:=h
  exact ZbZ (xs:=[]) (r:=.ints .i64 [_,_,_]) (Zkq _ _ _ _ h0) rfl
 ·cases h
def N3:List Ctr:=[k28i,k28g,k63i,k63g,k68i,k68g,k82i,k82g,k66i,k66g,k64i,k64g]++N2
theorem ZEL:ZaP Try.prog N3:=⟨ZwN,⟨Zw5,⟨ZwS,⟨ZxF,⟨ZwM,⟨Zw4,⟨ZxV,⟨Zx0,⟨Zxn,⟨Zyb,⟨ZwZ,⟨ZxQ,Zh9⟩⟩⟩⟩⟩⟩⟩⟩⟩⟩⟩⟩
end Go.Proofs.Ytklbmkllepkjcaa
/- Contracts as a list. No condition. -/
namespace Go.Proofs.Ytklbmkllepkjcaa
def Zag(so:List Int):Int:=((so.length/2:Nat):Int)
theorem ZoR(m p q:Int)(so:List Int)(h:so.length≤1000000):Zai Try.prog 84 [.agg (.gen [.int .i64 m, .int .i64 p, .int .i64 q, .list (.ints .i64 so)])] (.int .i64 (Zag so)) none:=
 start (Zyi m p q so) fun C hC=>tgo hC ZeN ZE2 (by
  have ht:((so.length:Nat):Int).tdiv 2=Zag so:=rfl
  have hb:0≤Zag so∧Zag so≤1000000:=by unfold Zag;omega
  simp only[ZBp,Zn6,ZoJ,Zoh,ht]
  simp;omega)
theorem Zmi(m p q:Int)(so:List Int)(h:1≤m∧m≤3):Zai Try.prog 86 [.agg (.gen [.int .i64 m, .int .i64 p, .int .i64 q, .list (.ints .i64 so)])] (.int .i64 (stN m)) none:=
 start (ZvQ m p q so) fun C hC=>tgo hC ZeN ZDS (by
  have h2:=Zgm h
  unfold stN at h2⊢
  simp[ZAh];omega)
def gaI(so:List Int)(t:Nat)(a b:Int):Int:=so.getD (2*t) 0*(1-2*a)+so.getD (2*t+1) 0*(1-2*b)
def ZxO(a:Int):Bool:=decide (a=0∨a=1)
theorem Zbp{so:List Int}(h:Zbs so (-7) 7=0)(k:Nat): -7≤so.getD k 0∧so.getD k 0≤7:=by
 unfold Zbs at h
 split at h
 ·rename_i hall
  by_cases hk:k<so.length
  ·have:=List.all_eq_true.1 hall _ (ZgO (d:=0) hk)
   simpa[Zat]using of_decide_eq_true this
  ·rw[List.getD_eq_getElem?_getD,List.getElem?_eq_none (by omega)];simp
 ·cases h
theorem ZDG{so:List Int}(h:Zbs so (-7) 7=0)(t:Nat){a b:Int}(ha:a=0∨a=1)(hb:b=0∨b=1): -14≤gaI so t a b∧gaI so t a b≤14:=by
 have h1:=Zbp h (2*t)
 have h2:=Zbp h (2*t+1)
 unfold gaI
 rcases ha with rfl |rfl<;>rcases hb with rfl |rfl<;>omega
theorem ZpP(so l:List Int)(t:Int)(hl:l.length=2∧ZxO (l.getD 0 0)=true∧ZxO (l.getD 1 0)=true)(hs:Zbs so (-7) 7=0∧so.length≤1000000)(ht:0≤t∧2*t+1<so.length):
 Zai Try.prog 69 [.agg (.ints .i64 l), .list (.ints .i64 so), .int .i64 t] (.int .i64 (gaI so t.toNat (l.getD 0 0) (l.getD 1 0))) none:=by
 obtain⟨T,rfl⟩:=Int.eq_ofNat_of_zero_le ht.1
 have ha:=of_decide_eq_true hl.2.1
 have hb:=of_decide_eq_true hl.2.2
 have h1:=Zbp hs.1 (2*T)
 have h2:=Zbp hs.1 (2*T+1)
 have e1:(2*(T:Int)).toNat=2*T:=by omega
 have e2:(2*(T:Int)+1).toNat=2*T+1:=by omega
 refine start (Zwz l so T) fun C hC=>tgo hC ZgC ZER ?_
 simp only[ZAX,Zmp,Zyf,ZvM,ZoE,ZDw,e1,e2]
 generalize hx:so.getD (2*T) 0=x at*
 generalize hy:so.getD (2*T+1) 0=y at*
 generalize hu:l.getD 0 0=u at*
 generalize hv:l.getD 1 0=v at*
 have r:gaI so T u v=x*(1-2*u)+y*(1-2*v):=by unfold gaI;rw[hx,hy]
 rcases ha with rfl |rfl<;>rcases hb with rfl |rfl<;>simp[r,hl.1]<;>omega
theorem Zs4(n:Int)(h:n=2∨n=4∨n=8):Zai Try.prog 83 [.list (.ints .i64 [-100000]), .int .i64 n] (.row 0 0) (some ⟨3,1, .ints .i64 (List.replicate n.toNat (-100000))⟩):=by
 rcases h with rfl |rfl |rfl
 ·exact Zab (n:=100000) (l:=[]) follows Zad trivial (by kernel_rfl)
 ·exact Zab (n:=100000) (l:=[]) follows Zad trivial (by kernel_rfl)
 ·exact Zab (n:=100000) (l:=[]) follows Zad trivial (by kernel_rfl)
theorem ZqM(n:Int)(h:n=2∨n=4∨n=8):Zai Try.prog 83 [.list (.ints .i64 [100000]), .int .i64 n] (.row 0 0) (some ⟨3,1, .ints .i64 (List.replicate n.toNat 100000)⟩):=by
 rcases h with rfl |rfl |rfl
 ·exact Zab (n:=100000) (l:=[]) follows Zad trivial (by kernel_rfl)
 ·exact Zab (n:=100000) (l:=[]) follows Zad trivial (by kernel_rfl)
 ·exact Zab (n:=100000) (l:=[]) follows Zad trivial (by kernel_rfl)
theorem Zp6(n:Int)(h:n=2∨n=4∨n=8):Zai Try.prog 122 [.list (.flts .f32 [3351465984]), .int .i64 n] (.row 0 0) (some ⟨118,1, .flts .f32 (List.replicate n.toNat 3351465984)⟩):=by
 rcases h with rfl |rfl |rfl
 ·exact Zab (n:=100000) (l:=[]) follows Zad trivial (by kernel_rfl)
 ·exact Zab (n:=100000) (l:=[]) follows Zad trivial (by kernel_rfl)
 ·exact Zab (n:=100000) (l:=[]) follows Zad trivial (by kernel_rfl)
def ZtZ(n:Int):Bool:=decide (n=2∨n=4∨n=8)
def gaG(so l:List Int)(t:Int):Bool:=decide (l.length=2∧ZxO (l.getD 0 0)=true∧ZxO (l.getD 1 0)=true)&&decide (Zbs so (-7) 7=0∧so.length≤1000000)&&decide (0≤t∧2*t+1<so.length)
theorem gaG_iff{so l:List Int}{t:Int} :gaG so l t=true↔(l.length=2∧ZxO (l.getD 0 0)=true∧ZxO (l.getD 1 0)=true)∧(Zbs so (-7) 7=0∧so.length≤1000000)∧0≤t∧2*t+1<so.length:=by
 unfold gaG;simp only[Bool.and_eq_true,decide_eq_true_eq];exact and_assoc
def k84:Ctr:=⟨84,0,fun _ a=>match a with |[.agg (.gen [.int .i64 _, .int .i64 _, .int .i64 _, .list (.ints .i64 so)])]=>some (decide (so.length≤1000000), .int .i64 (Zag so),none) |_=>none⟩
theorem ZAN:k84.OK Try.prog:=fun pa args r fr h=>by
 simp only[k84]at h
 split at h
 ·simp only[Option.some.injEq,Prod.mk.injEq,decide_eq_true_eq]at h
  obtain⟨h0,rfl,rfl⟩:=h
  exact ZoR _ _ _ _ h0
 ·cases h
def k86:Ctr:=⟨86,0,fun _ a=>match a with |[.agg (.gen [.int .i64 m, .int .i64 _, .int .i64 _, .list (.ints .i64 _)])]=>some (decide (Za7 m=true), .int .i64 (stN m),none) |_=>none⟩
theorem Zzx:k86.OK Try.prog:=fun pa args r fr h=>by
 simp only[k86]at h
 split at h
 ·simp only[Option.some.injEq,Prod.mk.injEq,decide_eq_true_eq]at h
  obtain⟨h0,rfl,rfl⟩:=h
  exact Zmi _ _ _ _ (of_decide_eq_true h0)
 ·cases h
def k69:Ctr:=⟨69,0,fun _ a=>match a with |[.agg (.ints .i64 l), .list (.ints .i64 so), .int .i64 t]=>some (decide (gaG so l t=true), .int .i64 (gaI so t.toNat (l.getD 0 0) (l.getD 1 0)),none) |_=>none⟩
theorem Zzr:k69.OK Try.prog:=fun pa args r fr h=>by
 simp only[k69]at h
 split at h
 ·simp only[Option.some.injEq,Prod.mk.injEq,decide_eq_true_eq]at h
  obtain⟨h0,rfl,rfl⟩:=h
  exact ZpP _ _ _ (gaG_iff.1 h0).1 (gaG_iff.1 h0).2.1 (gaG_iff.1 h0).2.2
 ·cases h
def k83:Ctr:=⟨83,0,fun _ a=>match a with |[.list (.ints .i64 [-100000]), .int .i64 n]=>some (decide (ZtZ n=true), .row 0 0,some ⟨3,1, .ints .i64 (List.replicate n.toNat (-100000))⟩) |_=>none⟩
theorem ZBX:k83.OK Try.prog:=fun pa args r fr h=>by
 simp only[k83]at h
 split at h
 ·simp only[Option.some.injEq,Prod.mk.injEq,decide_eq_true_eq]at h
  obtain⟨h0,rfl,rfl⟩:=h
  exact Zs4 _ (of_decide_eq_true h0)
 ·cases h
def k83f:Ctr:=⟨83,0,fun _ a=>match a with |[.list (.ints .i64 [100000]), .int .i64 n]=>some (decide (ZtZ n=true), .row 0 0,some ⟨3,1, .ints .i64 (List.replicate n.toNat 100000)⟩) |_=>none⟩
theorem Zyl:k83f.OK Try.prog:=fun pa args r fr h=>by
 simp only[k83f]at h
 split at h
 ·simp only[Option.some.injEq,Prod.mk.injEq,decide_eq_true_eq]at h
  obtain⟨h0,rfl,rfl⟩:=h
  exact ZqM _ (of_decide_eq_true h0)
 ·cases h
def k122:Ctr:=⟨122,0,fun _ a=>match a with |[.list (.flts .f32 [3351465984]), .int .i64 n]=>some (decide (ZtZ n=true), .row 0 0,some ⟨118,1, .flts .f32 (List.replicate n.toNat 3351465984)⟩) |_=>none⟩
theorem Zwc:k122.OK Try.prog:=fun pa args r fr h=>by
 simp only[k122]at h
 split at h
 ·simp only[Option.some.injEq,Prod.mk.injEq,decide_eq_true_eq]at h
  obtain⟨h0,rfl,rfl⟩:=h
  exact Zp6 _ (of_decide_eq_true h0)
 ·cases h
def N4:List Ctr:=[k84,k86,k69,k83,k83f,k122]++N3
theorem ZeQ:ZaP Try.prog N4:=⟨ZAN,⟨Zzx,⟨Zzr,⟨ZBX,⟨Zyl,⟨Zwc,ZEL⟩⟩⟩⟩⟩⟩
end Go.Proofs.Ytklbmkllepkjcaa
/- Paths of functions, printed by the explorer (Gx). No condition. -/
namespace Go.Proofs.Ytklbmkllepkjcaa
set_option maxRecDepth 100000
set_option linter.unusedVariables false
def ZuU(m g0 g1:Int)(xs:List Int):AFrame:={ fn:=108,N:=9,env:=[(0,AV.agg (Row.gen [.int .i64 m, .int .i64 g0, .int .i64 g1, .list (.ints .i64 xs)]))],todo:=[.code a108.code],defs:=[],rnd:=none,ret:=false,res:=[ARes.tmp 2] }
def ZDU(m g0 g1:Int)(xs:List Int):List AFrame:=[(ZuU m g0 g1 xs)]
theorem Zsz(m g0 g1:Int)(xs:List Int):Zas tab 108 [AV.agg (Row.gen [.int .i64 m, .int .i64 g0, .int .i64 g1, .list (.ints .i64 xs)])]=some (ZuU m g0 g1 xs):=rfl
def ZuA(A:Ar)(K:KT)(F:FT)(m g0 g1:Int)(xs:List Int):Prop:=rB [A.inR .i64 (A.sub (Zag xs) m),decide (List.length xs≤1000000)] (F (AV.int .i64 (A.sub (Zag xs) m)) (none))
theorem ZAZ{A:Ar}{K:KT}{F:FT}{M:MT}{m g0 g1:Int}{xs:List Int} :Zap A tab N4 108 K F M (.run 9 (.fn)) (ZDU m g0 g1 xs) []=ZuA A K F m g0 g1 xs:=by kernel_rfl
def ZBY(m g0 g1:Int)(xs:List Int):AFrame:={ fn:=15,N:=14,env:=[(0,AV.agg (Row.gen [.int .i64 m, .int .i64 g0, .int .i64 g1])),(1,AV.list (.ints .i64 xs))],todo:=[.code a15.code],defs:=[],rnd:=none,ret:=false,res:=[ARes.tmp 4] }
def ZGx(m g0 g1:Int)(xs:List Int):List AFrame:=[(ZBY m g0 g1 xs)]
theorem Zvq(m g0 g1:Int)(xs:List Int):Zas tab 15 [AV.agg (Row.gen [.int .i64 m, .int .i64 g0, .int .i64 g1]),AV.list (.ints .i64 xs)]=some (ZBY m g0 g1 xs):=rfl
def Zxe(A:Ar)(K:KT)(F:FT)(m g0 g1:Int)(xs:List Int):Prop:=bB (A.not (A.eq (ZaE m g0 g1) 0)) (F (AV.int .i64 (ZaE m g0 g1)) (none)) (rB [decide (Za7 m=true)] (F (AV.int .i64 (sfE m xs)) (none)))
theorem ZE4{A:Ar}{K:KT}{F:FT}{M:MT}{m g0 g1:Int}{xs:List Int} :Zap A tab N4 15 K F M (.run 17 (.tf (.run 6 (.fn)) (.run 9 (.fn)))) (ZGx m g0 g1 xs) []=Zxe A K F m g0 g1 xs:=by kernel_rfl
def ZBm(m g0 g1:Int)(xs:List Int):AFrame:={ fn:=16,N:=178,env:=[(0,AV.agg (Row.gen [.int .i64 m, .int .i64 g0, .int .i64 g1])),(1,AV.list (.ints .i64 xs))],todo:=[.code a16.code],defs:=[],rnd:=none,ret:=false,res:=[ARes.tmp 4,ARes.tmp 5] }
def ZHN(m g0 g1:Int)(xs:List Int):List AFrame:=[(ZBm m g0 g1 xs)]
theorem ZvI(m g0 g1:Int)(xs:List Int):Zas tab 16 [AV.agg (Row.gen [.int .i64 m, .int .i64 g0, .int .i64 g1]),AV.list (.ints .i64 xs)]=some (ZBm m g0 g1 xs):=rfl
def Zhv(m g0 g1:Int)(xs:List Int)(n0 n1:Int)(l2:List Nat)(l3:List (List Int))(n4:Int):List AFrame:=[{ fn:=16,N:=178,env:=[(1,AV.list (.ints .i64 xs)),(2,AV.ptr 16003 0 0 0),(6,AV.int .i64 n0),(7,AV.int .i64 n1),(8,AV.row 16031 0),(9,AV.int .i64 n4)],todo:=.code (ACode.gh [] ZyT)::ZDb,defs:=[],rnd:=none,ret:=false,res:=[ARes.tmp 4,ARes.tmp 5] }]
def ZfE(m g0 g1:Int)(xs:List Int)(n0 n1:Int)(l2:List Nat)(l3:List (List Int))(n4:Int):Zac:=[(16003,{ base:=0,blks:=[Blk.row 24 3 (Row.gen [AV.agg (Row.gen [AV.int .i64 m,AV.int .i64 g0,AV.int .i64 g1])])] }),(16031,{ base:=0,blks:=[Blk.row 25 1 (Row.refs 1000016 l2)] }),(1000016,{ base:=0,blks:=[],sym:=Sym.ints 3 1 .i64 l3 })]
abbrev Zin(m g0 g1:Int)(xs:List Int)(n0 n1:Int)(l2:List Nat)(l3:List (List Int))(n4:Int):List AFrame×Zac:=(Zhv m g0 g1 xs n0 n1 l2 l3 n4,ZfE m g0 g1 xs n0 n1 l2 l3 n4)
def Zfa(m g0 g1:Int)(xs:List Int)(n1 n5:Int)(l6:List Nat)(l7:List (List Int)):List AFrame:=[{ fn:=16,N:=178,env:=[(1,AV.list (.ints .i64 xs)),(2,AV.ptr 16003 0 0 0),(7,AV.int .i64 n1),(8,AV.row 16031 0),(10,AV.int .i64 n5)],todo:=.code (ACode.gh [] Zzz)::ZEZ,defs:=[],rnd:=none,ret:=false,res:=[ARes.tmp 4,ARes.tmp 5] }]
def Zdw(m g0 g1:Int)(xs:List Int)(n1 n5:Int)(l6:List Nat)(l7:List (List Int)):Zac:=[(16003,{ base:=0,blks:=[Blk.row 24 3 (Row.gen [AV.agg (Row.gen [AV.int .i64 m,AV.int .i64 g0,AV.int .i64 g1])])] }),(16031,{ base:=0,blks:=[Blk.row 25 1 (Row.refs 1000016 l6)] }),(1000016,{ base:=0,blks:=[],sym:=Sym.ints 3 1 .i64 l7 })]
abbrev ZiS(m g0 g1:Int)(xs:List Int)(n1 n5:Int)(l6:List Nat)(l7:List (List Int)):List AFrame×Zac:=(Zfa m g0 g1 xs n1 n5 l6 l7,Zdw m g0 g1 xs n1 n5 l6 l7)
def ZeC(m g0 g1:Int)(xs:List Int)(n1 n5:Int)(l8:List Nat)(l9:List (List Int))(n10:Int):List AFrame:=[{ fn:=16,N:=178,env:=[(1,AV.list (.ints .i64 xs)),(2,AV.ptr 16003 0 0 0),(7,AV.int .i64 n1),(8,AV.row 16031 0),(10,AV.int .i64 n5),(11,AV.int .i64 n10)],todo:=.code (ACode.gh [] ZBT)::ZEl,defs:=[],rnd:=none,ret:=false,res:=[ARes.tmp 4,ARes.tmp 5] }]
def Zdn(m g0 g1:Int)(xs:List Int)(n1 n5:Int)(l8:List Nat)(l9:List (List Int))(n10:Int):Zac:=[(16003,{ base:=0,blks:=[Blk.row 24 3 (Row.gen [AV.agg (Row.gen [AV.int .i64 m,AV.int .i64 g0,AV.int .i64 g1])])] }),(16031,{ base:=0,blks:=[Blk.row 25 1 (Row.refs 1000016 l8)] }),(1000016,{ base:=0,blks:=[],sym:=Sym.ints 3 1 .i64 l9 })]
abbrev Zfz(m g0 g1:Int)(xs:List Int)(n1 n5:Int)(l8:List Nat)(l9:List (List Int))(n10:Int):List AFrame×Zac:=(ZeC m g0 g1 xs n1 n5 l8 l9 n10,Zdn m g0 g1 xs n1 n5 l8 l9 n10)
def Zhe(m g0 g1:Int)(xs:List Int)(n1:Int)(l6:List Nat)(l7:List (List Int))(n11 n12:Int)(l13:List Int):List AFrame:=[{ fn:=16,N:=178,env:=[(1,AV.list (.ints .i64 xs)),(2,AV.ptr 16003 0 0 0),(7,AV.int .i64 n1),(8,AV.row 16031 0),(15,AV.row 16171 0),(16,AV.int .i64 n11),(17,AV.int .i64 n12)],todo:=.code (ACode.gh [] ZAg)::ZDu,defs:=[],rnd:=none,ret:=false,res:=[ARes.tmp 4,ARes.tmp 5] }]
def ZfZ(m g0 g1:Int)(xs:List Int)(n1:Int)(l6:List Nat)(l7:List (List Int))(n11 n12:Int)(l13:List Int):Zac:=[(16003,{ base:=0,blks:=[Blk.row 24 3 (Row.gen [AV.agg (Row.gen [AV.int .i64 m,AV.int .i64 g0,AV.int .i64 g1])])] }),(16031,{ base:=0,blks:=[Blk.row 25 1 (Row.refs 1000016 l6)] }),(16171,{ base:=0,blks:=[Blk.row 3 1 (.ints .i64 l13)] }),(1000016,{ base:=0,blks:=[],sym:=Sym.ints 3 1 .i64 l7 })]
abbrev Zf7(m g0 g1:Int)(xs:List Int)(n1:Int)(l6:List Nat)(l7:List (List Int))(n11 n12:Int)(l13:List Int):List AFrame×Zac:=(Zhe m g0 g1 xs n1 l6 l7 n11 n12 l13,ZfZ m g0 g1 xs n1 l6 l7 n11 n12 l13)
def Zdi(m g0 g1:Int)(xs:List Int)(n1 n5:Int)(l8:List Nat)(n10:Int)(l14:List (List Int))(n15:Int):List AFrame:=[{ fn:=16,N:=178,env:=[(1,AV.list (.ints .i64 xs)),(2,AV.ptr 16003 0 0 0),(7,AV.int .i64 n1),(8,AV.row 16031 0),(10,AV.int .i64 n5),(11,AV.int .i64 n10),(12,AV.int .i64 n15)],todo:=.code (ACode.gh [] ZB5)::ZDv,defs:=[],rnd:=none,ret:=false,res:=[ARes.tmp 4,ARes.tmp 5] }]
def Zct(m g0 g1:Int)(xs:List Int)(n1 n5:Int)(l8:List Nat)(n10:Int)(l14:List (List Int))(n15:Int):Zac:=[(16003,{ base:=0,blks:=[Blk.row 24 3 (Row.gen [AV.agg (Row.gen [AV.int .i64 m,AV.int .i64 g0,AV.int .i64 g1])])] }),(16031,{ base:=0,blks:=[Blk.row 25 1 (Row.refs 1000016 l8)] }),(1000016,{ base:=0,blks:=[],sym:=Sym.ints 3 1 .i64 l14 })]
abbrev Zco(m g0 g1:Int)(xs:List Int)(n1 n5:Int)(l8:List Nat)(n10:Int)(l14:List (List Int))(n15:Int):List AFrame×Zac:=(Zdi m g0 g1 xs n1 n5 l8 n10 l14 n15,Zct m g0 g1 xs n1 n5 l8 n10 l14 n15)
def ZBR(A:Ar)(K:KT)(F:FT)(m g0 g1:Int)(xs:List Int):Prop:=rB [Zae (Nat.blt (A.nat (A.quo (A.int (A.len xs)) 2)) (A.lenF (A.repF (A.nat (A.add (A.quo (A.int (A.len xs)) 2) 1)) 0))) true,Zae (A.le 0 (A.quo (A.int (A.len xs)) 2)) (Nat.blt (A.nat (A.quo (A.int (A.len xs)) 2)) (A.lenF (A.repF (A.nat (A.add (A.quo (A.int (A.len xs)) 2) 1)) 0))),Zae (A.le 0 (stN m)) (A.le (stN m) 4294967296),decide (Za7 m=true),Zae (A.le 0 (A.add (A.quo (A.int (A.len xs)) 2) 1)) (Zae (A.le (A.add (A.quo (A.int (A.len xs)) 2) 1) 4294967296) true),A.inR .i64 (A.add (A.quo (A.int (A.len xs)) 2) 1),A.inR .i64 (A.sub (A.quo (A.int (A.len xs)) 2) m),Zae (A.not (A.eq 2 0)) (A.inR .i64 (A.quo (A.int (A.len xs)) 2))] (K (Zin (m) (g0) (g1) (xs) (A.quo (A.int (A.len xs)) 2) (A.sub (A.quo (A.int (A.len xs)) 2) m) (A.setF (A.repF (A.nat (A.add (A.quo (A.int (A.len xs)) 2) 1)) 0) (A.nat (A.quo (A.int (A.len xs)) 2)) 1) ([]::List.append [] [A.rep (A.nat (stN m)) 0]) (1)))
theorem ZDE{A:Ar}{K:KT}{F:FT}{M:MT}{m g0 g1:Int}{xs:List Int} :Zap A tab N4 16 K F M (.run 47 (.hd)) (ZHN m g0 g1 xs) []=ZBR A K F m g0 g1 xs:=by kernel_rfl
def Zfv(A:Ar)(K:KT)(F:FT)(m g0 g1:Int)(xs:List Int)(n0 n1:Int)(l2:List Nat)(l3:List (List Int))(n4:Int):Prop:=rB [decide (Za7 m=true)] (bB (A.lt n4 (stN m)) (rB [A.inR .i64 (A.add n4 1),Zae (Nat.blt (A.nthF l2 (A.nat n0)) (List.length l3)) (Nat.blt (A.nat n4) (A.len (List.getD l3 (A.nthF l2 (A.nat n0)) []))),Zae (Nat.blt (A.nthF l2 (A.nat n0)) (List.length l3)) (Zae (A.le 0 n4) (Nat.blt (A.nat n4) (A.len (List.getD l3 (A.nthF l2 (A.nat n0)) [])))),Zae (Nat.blt (A.nat n0) (A.lenF l2)) true,Zae (A.le 0 n0) (Nat.blt (A.nat n0) (A.lenF l2))] (K (Zin (m) (g0) (g1) (xs) (n0) (n1) (l2) (List.set l3 (A.nthF l2 (A.nat n0)-0) (A.set (List.getD l3 (A.nthF l2 (A.nat n0)) []) (A.nat n4) (-2000000))) (A.add n4 1)))) (rB [A.inR .i64 (A.sub n0 1)] (K (ZiS (m) (g0) (g1) (xs) (n1) (A.sub n0 1) (l2) (l3)))))
theorem Zja{A:Ar}{K:KT}{F:FT}{M:MT}{m g0 g1:Int}{xs:List Int}{n0 n1:Int}{l2:List Nat}{l3:List (List Int)}{n4:Int} :Zap A tab N4 16 K F M (.run 9 (.tf (.run 20 (.hd)) (.run 11 (.hd)))) (Zhv m g0 g1 xs n0 n1 l2 l3 n4) (ZfE m g0 g1 xs n0 n1 l2 l3 n4)=Zfv A K F m g0 g1 xs n0 n1 l2 l3 n4:=by kernel_rfl
def ZfB(A:Ar)(K:KT)(F:FT)(m g0 g1:Int)(xs:List Int)(n1 n5:Int)(l6:List Nat)(l7:List (List Int)):Prop:=bB (A.le 0 n5) (rB [Zae (Nat.blt (A.nat n5) (A.lenF l6)) true,Zae (A.le 0 n5) (Nat.blt (A.nat n5) (A.lenF l6)),Zae (A.le 0 (stN m)) (A.le (stN m) 4294967296),decide (Za7 m=true)] (K (Zfz (m) (g0) (g1) (xs) (n1) (n5) (A.setF l6 (A.nat n5) (0+List.length (List.map (fun l=>Blk.row 3 1 (.ints .i64 l)) l7))) (List.append l7 [A.rep (A.nat (stN m)) 0]) (0)))) (K (Zf7 (m) (g0) (g1) (xs) (n1) (l6) (l7) (0) (0) ([])))
theorem Zip{A:Ar}{K:KT}{F:FT}{M:MT}{m g0 g1:Int}{xs:List Int}{n1 n5:Int}{l6:List Nat}{l7:List (List Int)} :Zap A tab N4 16 K F M (.run 7 (.tf (.run 21 (.hd)) (.run 18 (.hd)))) (Zfa m g0 g1 xs n1 n5 l6 l7) (Zdw m g0 g1 xs n1 n5 l6 l7)=ZfB A K F m g0 g1 xs n1 n5 l6 l7:=by kernel_rfl
def ZfM(A:Ar)(K:KT)(F:FT)(m g0 g1:Int)(xs:List Int)(n1 n5:Int)(l8:List Nat)(l9:List (List Int))(n10:Int):Prop:=rB [decide (Za7 m=true)] (bB (A.lt n10 (stN m)) (rB [Zae (Nat.blt (A.nthF l8 (A.nat n5)) (List.length l9)) (Nat.blt (A.nat n10) (A.len (List.getD l9 (A.nthF l8 (A.nat n5)) []))),Zae (Nat.blt (A.nthF l8 (A.nat n5)) (List.length l9)) (Zae (A.le 0 n10) (Nat.blt (A.nat n10) (A.len (List.getD l9 (A.nthF l8 (A.nat n5)) [])))),Zae (Nat.blt (A.nat n5) (A.lenF l8)) true,Zae (A.le 0 n5) (Nat.blt (A.nat n5) (A.lenF l8))] (K (Zco (m) (g0) (g1) (xs) (n1) (n5) (l8) (n10) (List.set l9 (A.nthF l8 (A.nat n5)-0) (A.set (List.getD l9 (A.nthF l8 (A.nat n5)) []) (A.nat n10) (-2000000))) (0)))) (rB [A.inR .i64 (A.sub n5 1)] (K (ZiS (m) (g0) (g1) (xs) (n1) (A.sub n5 1) (l8) (l9)))))
theorem Zji{A:Ar}{K:KT}{F:FT}{M:MT}{m g0 g1:Int}{xs:List Int}{n1 n5:Int}{l8:List Nat}{l9:List (List Int)}{n10:Int} :Zap A tab N4 16 K F M (.run 9 (.tf (.run 21 (.hd)) (.run 9 (.hd)))) (ZeC m g0 g1 xs n1 n5 l8 l9 n10) (Zdn m g0 g1 xs n1 n5 l8 l9 n10)=ZfM A K F m g0 g1 xs n1 n5 l8 l9 n10:=by kernel_rfl
def ZdA(A:Ar)(K:KT)(F:FT)(m g0 g1:Int)(xs:List Int)(n1:Int)(l6:List Nat)(l7:List (List Int))(n11 n12:Int)(l13:List Int):Prop:=bB (A.lt n12 n1) (rB [Zae (Nat.blt (A.nthF l6 (A.nat n12)) (List.length l7)) (Zae (Nat.blt (A.nat n11) (A.len (List.getD l7 (A.nthF l6 (A.nat n12)) []))) true),Zae (Nat.blt (A.nthF l6 (A.nat n12)) (List.length l7)) (Zae (A.le 0 n11) (Nat.blt (A.nat n11) (A.len (List.getD l7 (A.nthF l6 (A.nat n12)) [])))),Zae (Nat.blt (A.nat n12) (A.lenF l6)) true,Zae (A.le 0 n12) (Nat.blt (A.nat n12) (A.lenF l6)),A.inR .i64 (A.add (A.nth (List.getD l7 (A.nthF l6 (A.nat (A.add n12 1))) []) (A.nat (nxS m n11 0))) (gaI xs (Int.toNat n12) (List.getD (A.sub3 [oS m g0 n11 0,oS m g1 n11 0] 0 2) 0 0) (List.getD (A.sub3 [oS m g0 n11 0,oS m g1 n11 0] 0 2) 1 0))),decide (gaG xs (A.sub3 [oS m g0 n11 0,oS m g1 n11 0] 0 2) n12=true),Nat.ble 2 (A.len [oS m g0 n11 0,oS m g1 n11 0]),Zae (Nat.blt (A.nthF l6 (A.nat (A.add n12 1))) (List.length l7)) (Zae (Nat.blt (A.nat (nxS m n11 0)) (A.len (List.getD l7 (A.nthF l6 (A.nat (A.add n12 1))) []))) true),Zae (Nat.blt (A.nthF l6 (A.nat (A.add n12 1))) (List.length l7)) (Zae (A.le 0 (nxS m n11 0)) (Nat.blt (A.nat (nxS m n11 0)) (A.len (List.getD l7 (A.nthF l6 (A.nat (A.add n12 1))) [])))),Zae (Nat.blt (A.nat (A.add n12 1)) (A.lenF l6)) true,Zae (A.le 0 (A.add n12 1)) (Nat.blt (A.nat (A.add n12 1)) (A.lenF l6)),A.inR .i64 (A.add n12 1),Nat.beq (A.len [oS m g0 n11 0,oS m g1 n11 0]) 2,Nat.blt 0 (A.len [0,0]),decide (Zcb m g0 g1 n11 0=true)] (bB (A.not (A.eq (A.add (A.nth (List.getD l7 (A.nthF l6 (A.nat (A.add n12 1))) []) (A.nat (nxS m n11 0))) (gaI xs (Int.toNat n12) (List.getD (A.sub3 [oS m g0 n11 0,oS m g1 n11 0] 0 2) 0 0) (List.getD (A.sub3 [oS m g0 n11 0,oS m g1 n11 0] 0 2) 1 0))) (A.nth (List.getD l7 (A.nthF l6 (A.nat n12)) []) (A.nat n11)))) (rB [A.inR .i64 (A.add n12 1),Nat.ble (A.len l13+A.len [1]) 4294967296,List.all [AV.int .i64 1] fun x=>AV.bx x&&Nat.beq (Zao A x) 1,Nat.beq (A.len [oS m g0 n11 1,oS m g1 n11 1]) 2,decide (Zcb m g0 g1 n11 1=true)] (K (Zf7 (m) (g0) (g1) (xs) (n1) (l6) (l7) (nxS m n11 1) (A.add n12 1) (A.app l13 [1])))) (rB [A.inR .i64 (A.add n12 1),Nat.ble (A.len l13+A.len [0]) 4294967296,List.all [AV.int .i64 0] fun x=>AV.bx x&&Nat.beq (Zao A x) 1] (K (Zf7 (m) (g0) (g1) (xs) (n1) (l6) (l7) (nxS m n11 0) (A.add n12 1) (A.app l13 [0])))))) (rB [Zae (Nat.blt (A.nthF l6 (A.nat 0)) (List.length l7)) (Zae (Nat.blt (A.nat 0) (A.len (List.getD l7 (A.nthF l6 (A.nat 0)) []))) true),Zae (Nat.blt (A.nthF l6 (A.nat 0)) (List.length l7)) (Zae (A.le 0 0) (Nat.blt (A.nat 0) (A.len (List.getD l7 (A.nthF l6 (A.nat 0)) [])))),Zae (Nat.blt (A.nat 0) (A.lenF l6)) true,Zae (A.le 0 0) (Nat.blt (A.nat 0) (A.lenF l6))] (F (AV.tup [AV.row 0 0,AV.int .i64 (A.nth (List.getD l7 (A.nthF l6 (A.nat 0)) []) (A.nat 0))]) (some { e:=3,sz:=1,r:=.ints .i64 l13 })))
theorem ZiN{A:Ar}{K:KT}{F:FT}{M:MT}{m g0 g1:Int}{xs:List Int}{n1:Int}{l6:List Nat}{l7:List (List Int)}{n11 n12:Int}{l13:List Int} :Zap A tab N4 16 K F M (.run 8 (.tf (.run 24 (.tf (.run 31 (.hd)) (.run 18 (.hd)))) (.run 5 (.fn)))) (Zhe m g0 g1 xs n1 l6 l7 n11 n12 l13) (ZfZ m g0 g1 xs n1 l6 l7 n11 n12 l13)=ZdA A K F m g0 g1 xs n1 l6 l7 n11 n12 l13:=by kernel_rfl
def Zbw(A:Ar)(K:KT)(F:FT)(m g0 g1:Int)(xs:List Int)(n1 n5:Int)(l8:List Nat)(n10:Int)(l14:List (List Int))(n15:Int):Prop:=bB (A.lt n15 2) (bB (A.eq n15 0) (rB [Zae (Nat.blt (A.nthF l8 (A.nat (A.add n5 1))) (List.length l14)) (Zae (Nat.blt (A.nat (nxS m n10 n15)) (A.len (List.getD l14 (A.nthF l8 (A.nat (A.add n5 1))) []))) true),Zae (Nat.blt (A.nthF l8 (A.nat (A.add n5 1))) (List.length l14)) (Zae (A.le 0 (nxS m n10 n15)) (Nat.blt (A.nat (nxS m n10 n15)) (A.len (List.getD l14 (A.nthF l8 (A.nat (A.add n5 1))) [])))),Zae (Nat.blt (A.nat (A.add n5 1)) (A.lenF l8)) true,Zae (A.le 0 (A.add n5 1)) (Nat.blt (A.nat (A.add n5 1)) (A.lenF l8)),A.inR .i64 (A.add n5 1),Nat.beq (A.len [oS m g0 n10 n15,oS m g1 n10 n15]) 2,Nat.blt 0 (A.len [0,0]),decide (Zcb m g0 g1 n10 n15=true)] (bB (A.lt (-1000000) (A.nth (List.getD l14 (A.nthF l8 (A.nat (A.add n5 1))) []) (A.nat (nxS m n10 n15)))) (rB [A.inR .i64 (A.add n15 1),Zae (Nat.blt (A.nthF l8 (A.nat n5)) (List.length l14)) (Nat.blt (A.nat n10) (A.len (List.getD l14 (A.nthF l8 (A.nat n5)) []))),Zae (Nat.blt (A.nthF l8 (A.nat n5)) (List.length l14)) (Zae (A.le 0 n10) (Nat.blt (A.nat n10) (A.len (List.getD l14 (A.nthF l8 (A.nat n5)) [])))),A.inR .i64 (A.add (A.nth (List.getD l14 (A.nthF l8 (A.nat (A.add n5 1))) []) (A.nat (nxS m n10 n15))) (gaI xs (Int.toNat n5) (List.getD (A.sub3 [oS m g0 n10 n15,oS m g1 n10 n15] 0 2) 0 0) (List.getD (A.sub3 [oS m g0 n10 n15,oS m g1 n10 n15] 0 2) 1 0))),decide (gaG xs (A.sub3 [oS m g0 n10 n15,oS m g1 n10 n15] 0 2) n5=true),Nat.ble 2 (A.len [oS m g0 n10 n15,oS m g1 n10 n15]),Zae (Nat.blt (A.nthF l8 (A.nat (A.add n5 1))) (List.length l14)) (Zae (Nat.blt (A.nat (nxS m n10 n15)) (A.len (List.getD l14 (A.nthF l8 (A.nat (A.add n5 1))) []))) true),Zae (Nat.blt (A.nthF l8 (A.nat (A.add n5 1))) (List.length l14)) (Zae (A.le 0 (nxS m n10 n15)) (Nat.blt (A.nat (nxS m n10 n15)) (A.len (List.getD l14 (A.nthF l8 (A.nat (A.add n5 1))) [])))),Zae (Nat.blt (A.nat (A.add n5 1)) (A.lenF l8)) true,Zae (A.le 0 (A.add n5 1)) (Nat.blt (A.nat (A.add n5 1)) (A.lenF l8)),A.inR .i64 (A.add n5 1),Zae (Nat.blt (A.nthF l8 (A.nat n5)) (List.length l14)) (Zae (Nat.blt (A.nat n10) (A.len (List.getD l14 (A.nthF l8 (A.nat n5)) []))) true),Zae (Nat.blt (A.nthF l8 (A.nat n5)) (List.length l14)) (Zae (A.le 0 n10) (Nat.blt (A.nat n10) (A.len (List.getD l14 (A.nthF l8 (A.nat n5)) [])))),Zae (Nat.blt (A.nat n5) (A.lenF l8)) true,Zae (A.le 0 n5) (Nat.blt (A.nat n5) (A.lenF l8)),Zae (Nat.blt (A.nat n5) (A.lenF l8)) true,Zae (A.le 0 n5) (Nat.blt (A.nat n5) (A.lenF l8))] (K (Zco (m) (g0) (g1) (xs) (n1) (n5) (l8) (n10) (List.set l14 (A.nthF l8 (A.nat n5)-0) (A.set (List.getD l14 (A.nthF l8 (A.nat n5)) []) (A.nat n10) (A.max (A.nth (List.getD l14 (A.nthF l8 (A.nat n5)) []) (A.nat n10)) (A.add (A.nth (List.getD l14 (A.nthF l8 (A.nat (A.add n5 1))) []) (A.nat (nxS m n10 n15))) (gaI xs (Int.toNat n5) (List.getD (A.sub3 [oS m g0 n10 n15,oS m g1 n10 n15] 0 2) 0 0) (List.getD (A.sub3 [oS m g0 n10 n15,oS m g1 n10 n15] 0 2) 1 0)))))) (A.add n15 1)))) (rB [A.inR .i64 (A.add n15 1)] (K (Zco (m) (g0) (g1) (xs) (n1) (n5) (l8) (n10) (l14) (A.add n15 1)))))) (bB (A.lt n5 n1) (rB [Zae (Nat.blt (A.nthF l8 (A.nat (A.add n5 1))) (List.length l14)) (Zae (Nat.blt (A.nat (nxS m n10 n15)) (A.len (List.getD l14 (A.nthF l8 (A.nat (A.add n5 1))) []))) true),Zae (Nat.blt (A.nthF l8 (A.nat (A.add n5 1))) (List.length l14)) (Zae (A.le 0 (nxS m n10 n15)) (Nat.blt (A.nat (nxS m n10 n15)) (A.len (List.getD l14 (A.nthF l8 (A.nat (A.add n5 1))) [])))),Zae (Nat.blt (A.nat (A.add n5 1)) (A.lenF l8)) true,Zae (A.le 0 (A.add n5 1)) (Nat.blt (A.nat (A.add n5 1)) (A.lenF l8)),A.inR .i64 (A.add n5 1),Nat.beq (A.len [oS m g0 n10 n15,oS m g1 n10 n15]) 2,Nat.blt 0 (A.len [0,0]),decide (Zcb m g0 g1 n10 n15=true)] (bB (A.lt (-1000000) (A.nth (List.getD l14 (A.nthF l8 (A.nat (A.add n5 1))) []) (A.nat (nxS m n10 n15)))) (rB [A.inR .i64 (A.add n15 1),Zae (Nat.blt (A.nthF l8 (A.nat n5)) (List.length l14)) (Nat.blt (A.nat n10) (A.len (List.getD l14 (A.nthF l8 (A.nat n5)) []))),Zae (Nat.blt (A.nthF l8 (A.nat n5)) (List.length l14)) (Zae (A.le 0 n10) (Nat.blt (A.nat n10) (A.len (List.getD l14 (A.nthF l8 (A.nat n5)) [])))),A.inR .i64 (A.add (A.nth (List.getD l14 (A.nthF l8 (A.nat (A.add n5 1))) []) (A.nat (nxS m n10 n15))) (gaI xs (Int.toNat n5) (List.getD (A.sub3 [oS m g0 n10 n15,oS m g1 n10 n15] 0 2) 0 0) (List.getD (A.sub3 [oS m g0 n10 n15,oS m g1 n10 n15] 0 2) 1 0))),decide (gaG xs (A.sub3 [oS m g0 n10 n15,oS m g1 n10 n15] 0 2) n5=true),Nat.ble 2 (A.len [oS m g0 n10 n15,oS m g1 n10 n15]),Zae (Nat.blt (A.nthF l8 (A.nat (A.add n5 1))) (List.length l14)) (Zae (Nat.blt (A.nat (nxS m n10 n15)) (A.len (List.getD l14 (A.nthF l8 (A.nat (A.add n5 1))) []))) true),Zae (Nat.blt (A.nthF l8 (A.nat (A.add n5 1))) (List.length l14)) (Zae (A.le 0 (nxS m n10 n15)) (Nat.blt (A.nat (nxS m n10 n15)) (A.len (List.getD l14 (A.nthF l8 (A.nat (A.add n5 1))) [])))),Zae (Nat.blt (A.nat (A.add n5 1)) (A.lenF l8)) true,Zae (A.le 0 (A.add n5 1)) (Nat.blt (A.nat (A.add n5 1)) (A.lenF l8)),A.inR .i64 (A.add n5 1),Zae (Nat.blt (A.nthF l8 (A.nat n5)) (List.length l14)) (Zae (Nat.blt (A.nat n10) (A.len (List.getD l14 (A.nthF l8 (A.nat n5)) []))) true),Zae (Nat.blt (A.nthF l8 (A.nat n5)) (List.length l14)) (Zae (A.le 0 n10) (Nat.blt (A.nat n10) (A.len (List.getD l14 (A.nthF l8 (A.nat n5)) [])))),Zae (Nat.blt (A.nat n5) (A.lenF l8)) true,Zae (A.le 0 n5) (Nat.blt (A.nat n5) (A.lenF l8)),Zae (Nat.blt (A.nat n5) (A.lenF l8)) true,Zae (A.le 0 n5) (Nat.blt (A.nat n5) (A.lenF l8))] (K (Zco (m) (g0) (g1) (xs) (n1) (n5) (l8) (n10) (List.set l14 (A.nthF l8 (A.nat n5)-0) (A.set (List.getD l14 (A.nthF l8 (A.nat n5)) []) (A.nat n10) (A.max (A.nth (List.getD l14 (A.nthF l8 (A.nat n5)) []) (A.nat n10)) (A.add (A.nth (List.getD l14 (A.nthF l8 (A.nat (A.add n5 1))) []) (A.nat (nxS m n10 n15))) (gaI xs (Int.toNat n5) (List.getD (A.sub3 [oS m g0 n10 n15,oS m g1 n10 n15] 0 2) 0 0) (List.getD (A.sub3 [oS m g0 n10 n15,oS m g1 n10 n15] 0 2) 1 0)))))) (A.add n15 1)))) (rB [A.inR .i64 (A.add n15 1)] (K (Zco (m) (g0) (g1) (xs) (n1) (n5) (l8) (n10) (l14) (A.add n15 1)))))) (rB [A.inR .i64 (A.add n10 1)] (K (Zfz (m) (g0) (g1) (xs) (n1) (n5) (l8) (l14) (A.add n10 1)))))) (rB [A.inR .i64 (A.add n10 1)] (K (Zfz (m) (g0) (g1) (xs) (n1) (n5) (l8) (l14) (A.add n10 1))))
theorem Zi0{A:Ar}{K:KT}{F:FT}{M:MT}{m g0 g1:Int}{xs:List Int}{n1 n5:Int}{l8:List Nat}{n10:Int}{l14:List (List Int)}{n15:Int} :Zap A tab N4 16 K F M (.run 7 (.tf (.ty (.ty (.tf (.ty (.ty (.alt [true,true] (.ty (.run 2 (.ty (.run 30 (.tf (.run 9 (.hd)) (.run 9 (.hd))))))) (.no)))) (.fy (.fy (.alt [true,false] (.ty (.run 2 (.tf (.run 30 (.tf (.run 9 (.hd)) (.run 9 (.hd)))) (.run 9 (.hd))))) (.no))))))) (.fy (.fy (.run 3 (.fy (.fy (.run 2 (.fy (.run 9 (.hd))))))))))) (Zdi m g0 g1 xs n1 n5 l8 n10 l14 n15) (Zct m g0 g1 xs n1 n5 l8 n10 l14 n15)=Zbw A K F m g0 g1 xs n1 n5 l8 n10 l14 n15:=by kernel_rfl
end Go.Proofs.Ytklbmkllepkjcaa
/- Contracts as a list. No condition. -/
namespace Go.Proofs.Ytklbmkllepkjcaa
theorem Zo1(m p q:Int)(so:List Int)(h:so.length≤1000000∧1≤m∧m≤3):Zai Try.prog 108 [.agg (.gen [.int .i64 m, .int .i64 p, .int .i64 q, .list (.ints .i64 so)])] (.int .i64 (Zag so-m)) none:=
 start (Zsz m p q so) fun C hC=>tgo hC ZeQ ZAZ (by
  have hb:0≤Zag so∧Zag so≤1000000:=by unfold Zag;omega
  simp[ZuA];omega)
def cdE(m p q:Int)(so:List Int):Int:=if ZaE m p q≠0 then ZaE m p q else sfE m so
theorem Zrl(m p q:Int)(so:List Int):Zai Try.prog 15 [.agg (.gen [.int .i64 m, .int .i64 p, .int .i64 q]), .list (.ints .i64 so)] (.int .i64 (cdE m p q so)) none:=
 start (Zvq m p q so) fun C hC=>tgo hC ZeQ ZE4 (by
  by_cases h0:ZaE m p q=0
  ·have hm:Za7 m=true:=decide_eq_true (by have:=(Zaj h0).1;omega)
   simp[Zxe,h0,cdE,hm]
  ·simp[Zxe,h0,cdE])
theorem Zcl(m g s b:Int):oS m g s b=0∨oS m g s b=1:=by
 unfold oS Zpw
 rcases Nat.mod_two_eq_zero_or_one (Zph ((Zpd m s b).toNat &&& g.toNat))with h |h<;>rw[h]<;>simp
theorem Zio(m g s b:Int):ZxO (oS m g s b)=true:=decide_eq_true (Zcl m g s b)
def gnI(m p q:Int)(so:List Int)(t:Nat)(s b:Int):Int:=gaI so t (oS m p s b) (oS m q s b)
theorem Zcy{m p q:Int}{so:List Int}(h:Zbs so (-7) 7=0)(t:Nat)(s b:Int): -14≤gnI m p q so t s b∧gnI m p q so t s b≤14:=ZDG h t (Zcl _ _ _ _) (Zcl _ _ _ _)
def pT(T k:Nat):List Nat:=(List.range (T+1)).map fun j=>if T-j<k then T-j+1 else 0
theorem Zlp(T k:Nat):(pT T k).length=T+1:=by simp[pT]
theorem Zh3{T k j:Nat}(hj:j≤T)(hk:T-j<k):(pT T k).getD j 0=T-j+1:=by
 unfold pT
 rw[List.getD_eq_getElem?_getD,List.getElem?_map,List.getElem?_range (by omega)]
 simp[hk]
theorem ZzD(T:Nat):(List.replicate (T+1) 0).set T 1=pT T 1:=by
 apply List.ext_getElem?
 intro j
 unfold pT
 rw[List.getElem?_set,List.getElem?_map,List.getElem?_replicate,List.length_replicate]
 by_cases hj:j<T+1
 ·rw[List.getElem?_range hj]
  by_cases h:T=j
  ·subst h;simp
  ·simp[h,hj,show ¬T-j=0 by omega]
 ·rw[List.getElem?_eq_none (by simp;omega)]
  simp[hj,show ¬T=j by omega]
theorem Zzt{T k:Nat}(hk:k≤T):(pT T k).set (T-k) (k+1)=pT T (k+1):=by
 apply List.ext_getElem?
 intro j
 unfold pT
 rw[List.getElem?_set,List.getElem?_map,List.getElem?_map,List.length_map,List.length_range]
 by_cases hj:j<T+1
 ·rw[List.getElem?_range hj]
  by_cases h:T-k=j
  ·subst h;simp[show T-k<T+1 by omega,show T-(T-k)=k by omega]
  ·have:(T-j<k+1)↔(T-j<k):=by omega
   simp[h,this]
 ·rw[List.getElem?_eq_none (by simp;omega)]
  simp[show ¬T-k=j by omega]
def rR(k:Nat)(f:Nat→List Int):List (List Int):=[]::(List.range k).map f
theorem Zff(k:Nat)(f:Nat→List Int):(rR k f).length=k+1:=by simp[rR]
theorem ZuR{k i:Nat}(f:Nat→List Int)(l:List (List Int))(h:i<k):(rR k f++l).getD (i+1) []=f i:=by
 unfold rR
 rw[List.cons_append,List.getD_cons_succ,List.getD_eq_getElem?_getD,List.getElem?_append_left (by simpa using h),List.getElem?_map,List.getElem?_range h];rfl
theorem Zmk{k i:Nat}(f:Nat→List Int)(h:i<k):(rR k f).getD (i+1) []=f i:=by
 have:=ZuR f [] h;rwa[List.append_nil]at this
theorem ZmF(k:Nat)(f:Nat→List Int)(x:List Int):(rR k f++[x]).getD (k+1) []=x:=by
 rw[List.getD_eq_getElem?_getD,List.getElem?_append_right (by rw[Zff];omega),Zff];simp
theorem Zrc(k:Nat)(f:Nat→List Int)(x y:List Int):(rR k f++[x]).set (k+1) y=rR k f++[y]:=by
 rw[List.set_append,if_neg (by rw[Zff];omega),Zff];simp
theorem Zq1(k:Nat)(f:Nat→List Int):rR k f++[f k]=rR (k+1) f:=by
 simp[rR,List.range_succ]
def Zhh(S:Nat)(v:Nat→Int)(s:Nat):List Int:=(List.range s).map v++List.replicate (S-s) 0
theorem ZmU{S s:Nat}(v:Nat→Int)(h:s≤S):(Zhh S v s).length=S:=by simp[Zhh];omega
theorem ZsU{S s:Nat}(v:Nat→Int)(h:s<S)(x:Int):(Zhh S v s).set s x=(List.range s).map v++x::List.replicate (S-s-1) 0:=by
 unfold Zhh
 rw[List.set_append,if_neg (by simp),show S-s=(S-s-1)+1 by omega,List.replicate_succ]
 simp
theorem Zhp{S s:Nat}(v:Nat→Int)(h:s<S):(Zhh S v s).set s (v s)=Zhh S v (s+1):=by
 rw[ZsU v h,Zhh,List.range_succ,List.map_append,List.append_assoc,show S-(s+1)=S-s-1 by omega];rfl
theorem Zla(S:Nat)(v:Nat→Int):Zhh S v 0=List.replicate S 0:=by simp[Zhh]
theorem ZnA(S:Nat)(v:Nat→Int):Zhh S v S=(List.range S).map v:=by simp[Zhh]
section
variable (m p q:Int)(so:List Int)
def stS:Nat:=(stN m).toNat
def Zaa:Nat:=so.length/2
def ZaI:Nat:=so.length/2-m.toNat
def upR(D:List Int)(t:Nat)(s:Nat)(b:Int)(cur:Int):Int:=if -1000000<D.getD (nxS m s b).toNat 0 then max cur (D.getD (nxS m s b).toNat 0+gnI m p q so t s b)else cur
def Zic(D:List Int)(t s:Nat):Int:=if t<ZaI m so then upR m p q so D t s 1 (upR m p q so D t s 0 (-2000000))else upR m p q so D t s 0 (-2000000)
def dpR:Nat→List Int
 |0=>(List.range (stS m)).map fun s=>if s=0 then 0 else -2000000
 |n+1=>(List.range (stS m)).map fun s=>Zic m p q so (dpR n) (Zaa so-1-n) s
def tbR:Nat→Nat→Int→List Int
 |0,_,_=>[]
 |j+1,t,s=>if(dpR m p q so (Zaa so-t-1)).getD (nxS m s 0).toNat 0+gnI m p q so t s 0=(dpR m p q so (Zaa so-t)).getD s.toNat 0 then 0::tbR j (t+1) (nxS m s 0)else 1::tbR j (t+1) (nxS m s 1)
end
theorem Ztk(l:List Int)(s:Nat):l.set s (l.getD s 0)=l:=by
 apply List.ext_getElem?
 intro j
 rw[List.getElem?_set]
 split
 ·rename_i hj;subst hj;rw[List.getD_eq_getElem?_getD];split
  ·rename_i hl;rw[List.getElem?_eq_getElem hl];rfl
  ·rename_i hl;rw[List.getElem?_eq_none (by omega)]
 ·rfl
structure OkC (m p q:Int) (so:List Int):Prop where
 cv:ZaE m p q=0
 sf:sfE m so=0
theorem OkC.soft{m p q:Int}{so:List Int}(h:OkC m p q so):Zbs so (-7) 7=0∧so.length%2=0∧2*m≤so.length∧so.length≤606:=by
 have hm:=(Zaj h.cv).1
 have:=h.sf
 unfold sfE at this
 split at this
 ·cases this
 ·rename_i h1
  split at this
  ·cases this
  ·rename_i h2
   exact⟨this,by omega,by omega,by omega⟩
theorem ZaC{m:Int}(h:m=1∨m=2∨m=3):(stS m=2∨stS m=4∨stS m=8)∧(stS m:Int)=stN m:=by
 have h2:=Zgm (m:=m) (by omega)
 unfold stS;omega
theorem ZaG{m p q:Int}{so:List Int}(h:OkC m p q so){s:Nat}(hs:s<stS m){b:Int}(hb:b=0∨b=1):Zcb m p q s b=true∧0≤nxS m s b∧(nxS m s b).toNat<stS m:=by
 have hm:=(Zaj h.cv).1
 have h2:=ZaC hm
 obtain⟨r0,r1,r2,r3,r4⟩:=ZnZ (m:=m) (s:=s) (b:=b) hm (by omega) hb
 exact⟨decide_eq_true ⟨h.cv,by omega,by omega,hb⟩,r2,by omega⟩
section
variable (m p q:Int)(so:List Int)
theorem Zfl(n:Nat):(dpR m p q so n).length=stS m:=by cases n<;>simp[dpR]
theorem ZjV{s:Nat}(h:s<stS m):(dpR m p q so 0).getD s 0=if s=0 then 0 else -2000000:=by
 rw[dpR,List.getD_eq_getElem?_getD,List.getElem?_map,List.getElem?_range h];rfl
theorem ZeZ{n s:Nat}(h:s<stS m):(dpR m p q so (n+1)).getD s 0=Zic m p q so (dpR m p q so n) (Zaa so-1-n) s:=by
 rw[dpR,List.getD_eq_getElem?_getD,List.getElem?_map,List.getElem?_range h];rfl
end
theorem Zx6{m p q:Int}{so D:List Int}{U:Int}(hg:Zbs so (-7) 7=0)(t s:Nat)(b cur:Int)(hD:∀j, -2000000≤D.getD j 0∧D.getD j 0≤U)(hc: -2000000≤cur∧cur≤U+14): -2000000≤upR m p q so D t s b cur∧upR m p q so D t s b cur≤U+14:=by
 have h1:=Zcy (m:=m) (p:=p) (q:=q) hg t s b
 have h2:=hD (nxS m s b).toNat
 unfold upR
 split
 ·omega
 ·exact hc
theorem Zoa{m p q:Int}{so:List Int}(hg:Zbs so (-7) 7=0):∀n j:Nat, -2000000≤(dpR m p q so n).getD j 0∧(dpR m p q so n).getD j 0≤14*n
 |0,j=>by
  by_cases h:j<stS m
  ·rw[ZjV m p q so h];split<;>simp
  ·rw[List.getD_eq_getElem?_getD,List.getElem?_eq_none (by rw[Zfl];omega)];simp
 |n+1,j=>by
  have ih:=Zoa (m:=m) (p:=p) (q:=q) hg n
  by_cases h:j<stS m
  ·rw[ZeZ m p q so h,Zic]
   have h0:=Zx6 (m:=m) (p:=p) (q:=q) hg (Zaa so-1-n) j 0 (-2000000) ih (by omega)
   split
   ·have:=Zx6 (m:=m) (p:=p) (q:=q) hg (Zaa so-1-n) j 1 _ ih h0
    omega
   ·omega
  ·rw[List.getD_eq_getElem?_getD,List.getElem?_eq_none (by rw[Zfl];omega)];simp;omega
@[simp] theorem ZFv (l:List Nat):std.lenF l=l.length:=rfl
@[simp] theorem ZFD (l:List Nat) (j:Nat):std.nthF l j=l.getD j 0:=rfl
@[simp] theorem ZFV (l:List Nat) (j x:Nat):std.setF l j x=l.set j x:=rfl
@[simp] theorem ZFj (n x:Nat):std.repF n x=List.replicate n x:=rfl
@[simp] theorem ZFy (a b:List Nat):std.appF a b=a++b:=rfl
section
variable {C:Ctx}(hC:C.P=Try.prog)(m p q:Int)(so:List Int)(h:OkC m p q so)
include hC h
theorem R3(j t s:Nat)(ht:t+j+1=Zaa so)(hs:s<stS m)(row:List Int)(hrow:row.length=stS m)(hb1: -2000000≤row.getD s 0∧row.getD s 0≤100000)(b:Int)(hb:b=0∨b=1∧t<ZaI m so)(r:AV)(fr:Option Fresh)
 (hn:Ev C (Zdi m p q so (Zag so-m) t (pT (Zaa so) (j+2)) s (rR (j+1) (dpR m p q so)++[row.set s (upR m p q so (dpR m p q so j) t s b (row.getD s 0))]) (b+1)) (Zct m p q so (Zag so-m) t (pT (Zaa so) (j+2)) s (rR (j+1) (dpR m p q so)++[row.set s (upR m p q so (dpR m p q so j) t s b (row.getD s 0))]) (b+1)) (ZaX 16 r fr)):
 Ev C (Zdi m p q so (Zag so-m) t (pT (Zaa so) (j+2)) s (rR (j+1) (dpR m p q so)++[row]) b) (Zct m p q so (Zag so-m) t (pT (Zaa so) (j+2)) s (rR (j+1) (dpR m p q so)++[row]) b) (ZaX 16 r fr):=by
 obtain⟨hg,_,hl2,hl3⟩:=h.soft
 have hT:(Zaa so:Int)=Zag so:=rfl
 have hlen:2*Zaa so≤so.length:=by unfold Zaa;omega
 have e1:(pT (Zaa so) (j+2)).getD t 0=j+2:=by rw[Zh3 (by omega) (by omega)];omega
 have e2:(pT (Zaa so) (j+2)).getD (t+1) 0=j+1:=by rw[Zh3 (by omega) (by omega)];omega
 have e3:(rR (j+1) (dpR m p q so)++[row]).getD (j+1) []=dpR m p q so j:=ZuR _ _ (by omega)
 have e4:(rR (j+1) (dpR m p q so)++[row]).getD (j+2) []=row:=ZmF _ _ _
 have e5:(rR (j+1) (dpR m p q so)).length=j+2:=Zff _ _
 have e6:∀y,(rR (j+1) (dpR m p q so)++[row]).set (j+2) y=rR (j+1) (dpR m p q so)++[y]:=fun y=>Zrc _ _ _ _
 have e7:=Zlp (Zaa so) (j+2)
 have hd:=Zoa (m:=m) (p:=p) (q:=q) hg j
 have hdl:=Zfl m p q so j
 have hgl:=Zcy (m:=m) (p:=p) (q:=q) hg t s b
 refine tgo hC ZeQ Zi0 ?_
 have hbb:b=0∨b=1:=by omega
 obtain⟨s1,s2,s3⟩:=ZaG h hs hbb
 have hga:gaG so [oS m p s b,oS m q s b] t=true:=gaG_iff.2 ⟨⟨rfl,Zio _ _ _ _,Zio _ _ _ _⟩,⟨hg,by omega⟩,by omega,by omega⟩
 have hd1:=hd (nxS m s b).toNat
 have hm:=(Zaj h.cv).1
 have hbt:t<ZaI m so↔(t:Int)<Zag so-m:=by unfold ZaI Zag;omega
 by_cases hc: -1000000<(dpR m p q so j).getD (nxS m s b).toNat 0
 ·have hu:upR m p q so (dpR m p q so j) t s b (row.getD s 0)=max (row.getD s 0) ((dpR m p q so j).getD (nxS m s b).toNat 0+gaI so t (oS m p s b) (oS m q s b)):=by unfold upR;rw[if_pos hc];rfl
  rw[hu]at hn
  unfold gnI at hgl
  rcases hb with rfl |⟨rfl,hb⟩
  ·simp[-List.getD_eq_getElem?_getD,List.getD_cons_zero,List.getD_cons_succ,Zbw,e1,e2,e3,e4,e5,e6,e7,s1,hga,hc,hrow,hdl,s2,s3,hs]at hn⊢
   refine⟨?_,?_,hn⟩<;>omega
  ·simp[-List.getD_eq_getElem?_getD,List.getD_cons_zero,List.getD_cons_succ,Zbw,e1,e2,e3,e4,e5,e6,e7,s1,hga,hc,hrow,hdl,s2,s3,hs,hbt.1 hb]at hn⊢
   refine⟨?_,?_,hn⟩<;>omega
 ·have hu:upR m p q so (dpR m p q so j) t s b (row.getD s 0)=row.getD s 0:=by unfold upR;rw[if_neg hc]
  rw[hu,Ztk]at hn
  rcases hb with rfl |⟨rfl,hb⟩
  ·simp[-List.getD_eq_getElem?_getD,List.getD_cons_zero,List.getD_cons_succ,Zbw,e1,e2,e3,e4,e5,e6,e7,s1,hga,hc,hrow,hdl,s2,s3,hs]at hn⊢
   refine⟨?_,hn⟩;omega
  ·simp[-List.getD_eq_getElem?_getD,List.getD_cons_zero,List.getD_cons_succ,Zbw,e1,e2,e3,e4,e5,e6,e7,s1,hga,hc,hrow,hdl,s2,s3,hs,hbt.1 hb]at hn⊢
   refine⟨?_,hn⟩;omega
theorem R3x(j t s:Nat)(ht:t+j+1=Zaa so)(hs:s<stS m)(rows:List (List Int))(b:Int)(hb:b=2∨b=1∧¬t<ZaI m so)(r:AV)(fr:Option Fresh)
 (hn:Ev C (ZeC m p q so (Zag so-m) t (pT (Zaa so) (j+2)) rows ((s+1:Nat):Int)) (Zdn m p q so (Zag so-m) t (pT (Zaa so) (j+2)) rows ((s+1:Nat):Int)) (ZaX 16 r fr)):
 Ev C (Zdi m p q so (Zag so-m) t (pT (Zaa so) (j+2)) s rows b) (Zct m p q so (Zag so-m) t (pT (Zaa so) (j+2)) s rows b) (ZaX 16 r fr):=by
 have hm:=(Zaj h.cv).1
 have h2:=ZaC hm
 have hbt:t<ZaI m so↔(t:Int)<Zag so-m:=by unfold ZaI Zag;omega
 refine tgo hC ZeQ Zi0 ?_
 rcases hb with rfl |⟨rfl,hb⟩
 ·simp[Zbw]at hn⊢
  exact⟨by omega,hn⟩
 ·rw[hbt]at hb
  simp[Zbw,hb]at hn⊢
  exact⟨by omega,hn⟩
theorem R2(j t:Nat)(ht:t+j+1=Zaa so)(r:AV)(fr:Option Fresh)
 (hn:Ev C (Zfa m p q so (Zag so-m) ((t:Int)-1) (pT (Zaa so) (j+2)) (rR (j+2) (dpR m p q so))) (Zdw m p q so (Zag so-m) ((t:Int)-1) (pT (Zaa so) (j+2)) (rR (j+2) (dpR m p q so))) (ZaX 16 r fr)):
 ∀k s:Nat,s+k=stS m→
 Ev C (ZeC m p q so (Zag so-m) t (pT (Zaa so) (j+2)) (rR (j+1) (dpR m p q so)++[Zhh (stS m) (Zic m p q so (dpR m p q so j) t) s]) s) (Zdn m p q so (Zag so-m) t (pT (Zaa so) (j+2)) (rR (j+1) (dpR m p q so)++[Zhh (stS m) (Zic m p q so (dpR m p q so j) t) s]) s) (ZaX 16 r fr):=by
 obtain⟨hg,_,hl2,hl3⟩:=h.soft
 have hlen:2*Zaa so≤so.length:=by unfold Zaa;omega
 have hm:=(Zaj h.cv).1
 have h2:=ZaC hm
 have hmm:Za7 m=true:=decide_eq_true (by omega)
 have e1:(pT (Zaa so) (j+2)).getD t 0=j+2:=by rw[Zh3 (by omega) (by omega)];omega
 have e4:∀x,(rR (j+1) (dpR m p q so)++[x]).getD (j+2) []=x:=fun x=>ZmF _ _ _
 have e5:(rR (j+1) (dpR m p q so)).length=j+2:=Zff _ _
 have e6:∀x y,(rR (j+1) (dpR m p q so)++[x]).set (j+2) y=rR (j+1) (dpR m p q so)++[y]:=fun x y=>Zrc _ _ _ _
 have e7:=Zlp (Zaa so) (j+2)
 have hd:=Zoa (m:=m) (p:=p) (q:=q) hg j
 intro k
 induction k with
 |zero=>
  intro s hs
  refine tgo hC ZeQ Zji ?_
  have e8:dpR m p q so (j+1)=Zhh (stS m) (Zic m p q so (dpR m p q so j) t) s:=by
   rw[show s=stS m by omega,ZnA,dpR,show Zaa so-1-j=t by omega]
  have e9:(s:Int)=stN m:=by omega
  rw[←Zq1,e8]at hn
  simp[-List.getD_eq_getElem?_getD,ZfM,hmm,e9]
  exact⟨by omega,hn⟩
 |succ k ih=>
  intro s hs
  refine tgo hC ZeQ Zji ?_
  have e9:(s:Int)<stN m:=by omega
  have e10:=ZmU (Zic m p q so (dpR m p q so j) t) (show s≤stS m by omega)
  have hs':s<stS m:=by omega
  simp[-List.getD_eq_getElem?_getD,ZfM,hmm,e9,e1,e4,e5,e6,e7,e10,hs']
  refine⟨by omega,?_⟩
  have e11:∀x,((Zhh (stS m) (Zic m p q so (dpR m p q so j) t) s).set s x).getD s 0=x:=by
   intro x;rw[List.getD_eq_getElem?_getD,List.getElem?_set];simp[e10,hs']
  have e12:∀x y,((Zhh (stS m) (Zic m p q so (dpR m p q so j) t) s).set s x).set s y=(Zhh (stS m) (Zic m p q so (dpR m p q so j) t) s).set s y:=by
   intro x y;simp
  have e13:∀x,((Zhh (stS m) (Zic m p q so (dpR m p q so j) t) s).set s x).length=stS m:=by
   intro x;simp[e10]
  have hu0:=Zx6 (m:=m) (p:=p) (q:=q) hg t s 0 (-2000000) hd (by omega)
  have ih':=ih (s+1) (by omega)
  rw[←Zhp _ hs']at ih'
  apply R3 hC m p q so h j t s ht hs' _ (e13 _) (by rw[e11];omega) 0 (Or.inl rfl)
  rw[e11,e12]
  by_cases hb:t<ZaI m so
  ·apply R3 hC m p q so h j t s ht hs' _ (e13 _) (by rw[e11];omega) _ (Or.inr ⟨rfl,hb⟩)
   rw[e11,e12]
   apply R3x hC m p q so h j t s ht hs' _ _ (Or.inl rfl)
   have:Zic m p q so (dpR m p q so j) t s=upR m p q so (dpR m p q so j) t s (0+1) (upR m p q so (dpR m p q so j) t s 0 (-2000000)):=by rw[Zic,if_pos hb];rfl
   rw[this]at ih'
   exact ih'
  ·apply R3x hC m p q so h j t s ht hs' _ _ (Or.inr ⟨rfl,hb⟩)
   have:Zic m p q so (dpR m p q so j) t s=upR m p q so (dpR m p q so j) t s 0 (-2000000):=by rw[Zic,if_neg hb]
   rw[this]at ih'
   exact ih'
theorem R0b:∀k t:Nat,t+k=ZaI m so→∀(s:Int) (l:List Int),0≤s→s<stN m→l.length+k≤1000→
 Ev C (Zhe m p q so (Zag so-m) (pT (Zaa so) (Zaa so+1)) (rR (Zaa so+1) (dpR m p q so)) s t l) (ZfZ m p q so (Zag so-m) (pT (Zaa so) (Zaa so+1)) (rR (Zaa so+1) (dpR m p q so)) s t l) (ZaX 16 (.tup [.row 0 0, .int .i64 ((dpR m p q so (Zaa so)).getD 0 0)]) (some ⟨3,1, .ints .i64 (l++tbR m p q so k t s)⟩)):=by
 obtain⟨hg,_,hl2,hl3⟩:=h.soft
 have hlen:2*Zaa so≤so.length:=by unfold Zaa;omega
 have hm:=(Zaj h.cv).1
 have h2:=ZaC hm
 have e5:(rR (Zaa so+1) (dpR m p q so)).length=Zaa so+2:=Zff _ _
 have e7:=Zlp (Zaa so) (Zaa so+1)
 intro k
 induction k with
 |zero=>
  intro t ht s l h0 h1 hl
  refine tgo hC ZeQ ZiN ?_
  have hbt:¬(t:Int)<Zag so-m:=by unfold ZaI at ht;unfold Zag;omega
  have e1:(pT (Zaa so) (Zaa so+1)).getD 0 0=Zaa so+1:=by rw[Zh3 (by omega) (by omega)];omega
  have e3:(rR (Zaa so+1) (dpR m p q so)).getD (Zaa so+1) []=dpR m p q so (Zaa so):=Zmk _ (by omega)
  have hdl:=Zfl m p q so (Zaa so)
  simp[-List.getD_eq_getElem?_getD,ZdA,hbt,e1,e3,e5,e7,hdl,tbR]
  omega
 |succ k ih=>
  intro t ht s l h0 h1 hl
  refine tgo hC ZeQ ZiN ?_
  have hbt:(t:Int)<Zag so-m:=by unfold ZaI at ht;unfold Zag;omega
  have htt:t<Zaa so:=by unfold ZaI at ht;unfold Zaa;omega
  have e1:(pT (Zaa so) (Zaa so+1)).getD t 0=Zaa so-t+1:=by rw[Zh3 (by omega) (by omega)]
  have e2:(pT (Zaa so) (Zaa so+1)).getD (t+1) 0=Zaa so-t-1+1:=by rw[Zh3 (by omega) (by omega)];omega
  have e3:(rR (Zaa so+1) (dpR m p q so)).getD (Zaa so-t+1) []=dpR m p q so (Zaa so-t):=Zmk _ (by omega)
  have e4:(rR (Zaa so+1) (dpR m p q so)).getD (Zaa so-t-1+1) []=dpR m p q so (Zaa so-t-1):=Zmk _ (by omega)
  have hdl:=Zfl m p q so (Zaa so-t)
  have hdl1:=Zfl m p q so (Zaa so-t-1)
  obtain⟨s',rfl⟩:=Int.eq_ofNat_of_zero_le h0
  obtain⟨s1,s2,s3⟩:=ZaG h (s:=s') (b:=0) (by omega) (Or.inl rfl)
  obtain⟨z1,z2,z3⟩:=ZaG h (s:=s') (b:=1) (by omega) (Or.inr rfl)
  have hga:gaG so [oS m p s' 0,oS m q s' 0] t=true:=gaG_iff.2 ⟨⟨rfl,Zio _ _ _ _,Zio _ _ _ _⟩,⟨hg,by omega⟩,by omega,by omega⟩
  have hd:=Zoa (m:=m) (p:=p) (q:=q) hg (Zaa so-t-1) (nxS m s' 0).toNat
  have hgl:=Zcy (m:=m) (p:=p) (q:=q) hg t s' 0
  have hs':s'<stS m:=by omega
  have i0:=ih (t+1) (by omega) (nxS m s' 0) (l++[0]) s2 (by omega) (by simp;omega)
  have i1:=ih (t+1) (by omega) (nxS m s' 1) (l++[1]) z2 (by omega) (by simp;omega)
  unfold gnI at hgl
  have hT:(Zaa so:Int)=Zag so:=rfl
  by_cases hq:(dpR m p q so (Zaa so-t-1)).getD (nxS m s' 0).toNat 0+gaI so t (oS m p s' 0) (oS m q s' 0)=(dpR m p q so (Zaa so-t)).getD s' 0
  ·have hd2:=Zoa (m:=m) (p:=p) (q:=q) hg (Zaa so-t) s'
   simp[-List.getD_eq_getElem?_getD,List.getD_cons_zero,List.getD_cons_succ,ZdA,hbt,e1,e2,e3,e4,e5,e7,hdl,hdl1,s1,s2,s3,hga,hs',hq,tbR,gnI,AV.bx,Zao]at i0⊢
   refine⟨?_,?_,i0⟩<;>omega
  ·simp[-List.getD_eq_getElem?_getD,List.getD_cons_zero,List.getD_cons_succ,ZdA,hbt,e1,e2,e3,e4,e5,e7,hdl,hdl1,s1,s2,s3,hga,hs',hq,tbR,gnI,z1,AV.bx,Zao]at i1⊢
   refine⟨?_,?_,i1⟩<;>omega
theorem R1:∀j t:Nat,t+j=Zaa so→
 Ev C (Zfa m p q so (Zag so-m) ((t:Int)-1) (pT (Zaa so) (j+1)) (rR (j+1) (dpR m p q so))) (Zdw m p q so (Zag so-m) ((t:Int)-1) (pT (Zaa so) (j+1)) (rR (j+1) (dpR m p q so))) (ZaX 16 (.tup [.row 0 0, .int .i64 ((dpR m p q so (Zaa so)).getD 0 0)]) (some ⟨3,1, .ints .i64 (tbR m p q so (ZaI m so) 0 0)⟩)):=by
 have hm:=(Zaj h.cv).1
 have h2:=ZaC hm
 have hmm:Za7 m=true:=decide_eq_true (by omega)
 obtain⟨hg,_,hl2,hl3⟩:=h.soft
 have hlen:2*Zaa so≤so.length:=by unfold Zaa;omega
 intro j t
 induction t generalizing j with
 |zero=>
  intro ht
  refine tgo hC ZeQ Zip ?_
  have i:=R0b hC m p q so h (ZaI m so) 0 (by omega) 0 [] (by omega) (by omega) (by simp;unfold ZaI;omega)
  rw[show j=Zaa so by omega]
  simp[ZfB]at i⊢
  exact i
 |succ t ih=>
  intro ht
  refine tgo hC ZeQ Zip ?_
  have e5:(rR (j+1) (dpR m p q so)).length=j+2:=Zff _ _
  have e7:=Zlp (Zaa so) (j+1)
  have e8:(pT (Zaa so) (j+1)).set t (j+2)=pT (Zaa so) (j+2):=by
   have:=Zzt (T:=Zaa so) (k:=j+1) (by omega)
   rwa[show Zaa so-(j+1)=t by omega]at this
  have e9:List.replicate (stN m).toNat 0=Zhh (stS m) (Zic m p q so (dpR m p q so j) t) 0:=(Zla _ _).symm
  have i:=R2 hC m p q so h j t (by omega) _ _ (ih (j+1) (by omega)) (stS m) 0 (by omega)
  simp[ZfB,hmm,e5,e7,e8,e9]at i⊢
  refine⟨by omega,i⟩
def v0(s:Nat):Int:=if s=0 then 0 else -2000000
theorem R4(hT:0<Zaa so):∀k s:Nat,s+k=stS m→1≤s→
 Ev C (Zhv m p q so (Zag so) (Zag so-m) (pT (Zaa so) 1) (rR 0 (dpR m p q so)++[Zhh (stS m) v0 s]) s) (ZfE m p q so (Zag so) (Zag so-m) (pT (Zaa so) 1) (rR 0 (dpR m p q so)++[Zhh (stS m) v0 s]) s) (ZaX 16 (.tup [.row 0 0, .int .i64 ((dpR m p q so (Zaa so)).getD 0 0)]) (some ⟨3,1, .ints .i64 (tbR m p q so (ZaI m so) 0 0)⟩)):=by
 have hm:=(Zaj h.cv).1
 have h2:=ZaC hm
 have hmm:Za7 m=true:=decide_eq_true (by omega)
 obtain⟨hg,_,hl2,hl3⟩:=h.soft
 have hlen:2*Zaa so≤so.length:=by unfold Zaa;omega
 have hTT:(Zaa so:Int)=Zag so:=rfl
 have e1:(pT (Zaa so) 1).getD (Zaa so) 0=1:=by rw[Zh3 (by omega) (by omega)];omega
 have e4:∀x,(rR 0 (dpR m p q so)++[x]).getD 1 []=x:=fun x=>ZmF _ _ _
 have e5:(rR 0 (dpR m p q so)).length=1:=Zff _ _
 have e6:∀x y,(rR 0 (dpR m p q so)++[x]).set 1 y=rR 0 (dpR m p q so)++[y]:=fun x y=>Zrc _ _ _ _
 have e7:=Zlp (Zaa so) 1
 have eT:(Zag so).toNat=Zaa so:=rfl
 intro k
 induction k with
 |zero=>
  intro s hs h1
  refine tgo hC ZeQ Zja ?_
  have e9:(s:Int)=stN m:=by omega
  have i:=R1 hC m p q so h 0 (Zaa so) (by omega)
  have e8:dpR m p q so 0=Zhh (stS m) v0 s:=by
   rw[show s=stS m by omega,ZnA,dpR];rfl
  rw[←Zq1,e8,hTT]at i
  simp[-List.getD_eq_getElem?_getD,Zfv,hmm,e9]at i⊢
  exact⟨by omega,i⟩
 |succ k ih=>
  intro s hs h1
  refine tgo hC ZeQ Zja ?_
  have e9:(s:Int)<stN m:=by omega
  have hs':s<stS m:=by omega
  have e10:=ZmU v0 (show s≤stS m by omega)
  have ih':=ih (s+1) (by omega) (by omega)
  have e11:=Zhp v0 hs'
  rw[←e11,show v0 s= -2000000 by unfold v0;rw[if_neg (by omega)]]at ih'
  simp[-List.getD_eq_getElem?_getD,Zfv,hmm,e9,eT,e1,e4,e5,e6,e7,e10,hs']at ih'⊢
  refine⟨by omega,ih'⟩
end
theorem Zp3(m p q:Int)(so:List Int)(h0:ZaE m p q=0)(h1:sfE m so=0):Zai Try.prog 16 [.agg (.gen [.int .i64 m, .int .i64 p, .int .i64 q]), .list (.ints .i64 so)] (.tup [.row 0 0, .int .i64 ((dpR m p q so (Zaa so)).getD 0 0)]) (some ⟨3,1, .ints .i64 (tbR m p q so (ZaI m so) 0 0)⟩):=
 start (ZvI m p q so) fun C hC=>tgo hC ZeQ ZDE (by
  have h:OkC m p q so:=⟨h0,h1⟩
  have hm:=(Zaj h0).1
  have h2:=ZaC hm
  have hmm:Za7 m=true:=decide_eq_true (by omega)
  obtain⟨hg,_,hl2,hl3⟩:=h.soft
  have hlen:2*Zaa so≤so.length∧1≤Zaa so:=by unfold Zaa;omega
  have ht:((so.length:Nat):Int).tdiv 2=Zag so:=rfl
  have hb:Zag so=Zaa so:=rfl
  have i:=R4 hC m p q so h (by omega) (stS m-1) 1 (by omega) (by omega)
  have e1:Zhh (stS m) v0 1=List.replicate (stN m).toNat 0:=by
   have:=Zhp v0 (S:=stS m) (s:=0) (by omega)
   rw[←this,Zla]
   show(List.replicate (stS m) (0:Int)).set 0 0=List.replicate (stS m) 0
   cases hh:stS m with
   |zero=>rfl
   |succ n=>simp[List.replicate_succ]
  rw[e1,←ZzD]at i
  simp only[ZBR,Zn6,ZoJ,Zoh,ht]
  have e2:(Zag so+1).toNat=Zaa so+1:=by omega
  have e3:(Zag so).toNat=Zaa so:=rfl
  simp[rR,hmm,e2,e3]at i⊢
  refine⟨by omega,i⟩)
def bvI(m p q:Int)(so:List Int):Int:=(dpR m p q so (Zaa so)).getD 0 0
def blI(m p q:Int)(so:List Int):List Int:=tbR m p q so (ZaI m so) 0 0
def okI(m p q:Int)(so:List Int):Bool:=decide (ZaE m p q=0)&&decide (sfE m so=0)
theorem okI_iff{m p q:Int}{so:List Int} :okI m p q so=true↔OkC m p q so:=by
 unfold okI;simp only[Bool.and_eq_true,decide_eq_true_eq];exact⟨fun h=>⟨h.1,h.2⟩,fun h=>⟨h.1,h.2⟩⟩
def ZbL(m:Int)(so:List Int):Int:=Zag so-m
def ZlT(m:Int)(so:List Int):Bool:=decide (so.length≤1000000∧1≤m∧m≤3)
def k108:Ctr:=⟨108,0,fun _ a=>match a with |[.agg (.gen [.int .i64 m, .int .i64 _, .int .i64 _, .list (.ints .i64 so)])]=>some (decide (ZlT m so=true), .int .i64 (ZbL m so),none) |_=>none⟩
theorem Zw2:k108.OK Try.prog:=fun pa args r fr h=>by
 simp only[k108]at h
 split at h
 ·simp only[Option.some.injEq,Prod.mk.injEq,decide_eq_true_eq]at h
  obtain⟨h0,rfl,rfl⟩:=h
  exact Zo1 _ _ _ _ (of_decide_eq_true h0)
 ·cases h
def k15:Ctr:=⟨15,0,fun _ a=>match a with |[.agg (.gen [.int .i64 m, .int .i64 p, .int .i64 q]), .list (.ints .i64 so)]=>some (true, .int .i64 (cdE m p q so),none) |_=>none⟩
theorem Zz1:k15.OK Try.prog:=fun pa args r fr h=>by
 simp only[k15]at h
 split at h
 ·cases h
  exact Zrl _ _ _ _
 ·cases h
def k16:Ctr:=⟨16,0,fun _ a=>match a with |[.agg (.gen [.int .i64 m, .int .i64 p, .int .i64 q]), .list (.ints .i64 so)]=>some (decide (okI m p q so=true), .tup [.row 0 0, .int .i64 (bvI m p q so)],some ⟨3,1, .ints .i64 (blI m p q so)⟩) |_=>none⟩
theorem Zzq:k16.OK Try.prog:=fun pa args r fr h=>by
 simp only[k16]at h
 split at h
 ·simp only[Option.some.injEq,Prod.mk.injEq,decide_eq_true_eq]at h
  obtain⟨h0,rfl,rfl⟩:=h
  exact Zp3 _ _ _ _ (okI_iff.1 h0).cv (okI_iff.1 h0).sf
 ·cases h
def N5:List Ctr:=[k108,k15,k16]++N4
theorem Zbr:ZaP Try.prog N5:=⟨Zw2,⟨Zz1,⟨Zzq,ZeQ⟩⟩⟩
end Go.Proofs.Ytklbmkllepkjcaa
