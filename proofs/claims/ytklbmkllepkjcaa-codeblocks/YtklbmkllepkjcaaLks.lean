/- Paths of functions, printed by the explorer (Gx). No condition. -/
import Derived.Test.YtklbmkllepkjcaaGg
import Derived.KernelRfl
namespace Go.Proofs.Ytklbmkllepkjcaa
set_option maxRecDepth 100000
set_option linter.unusedVariables false
def ZEt(h:Int)(w:List Int)(x y:Int):AFrame:={ fn:=4,N:=146,env:=[(0,AV.int .i64 h),(1,AV.list (.ints .i64 w)),(2,AV.agg (.ints .i64 [x,y]))],todo:=[.code a4.code],defs:=[],rnd:=none,ret:=false,res:=[ARes.tmp 6] }
def f4e(h:Int)(w:List Int)(x y:Int):List AFrame:=[(ZEt h w x y)]
theorem Zxs(h:Int)(w:List Int)(x y:Int):Zat tab 4 [AV.int .i64 h,AV.list (.ints .i64 w),AV.agg (.ints .i64 [x,y])]=some (ZEt h w x y):=rfl
def Zev(A:Ar)(K:KT)(F:FT)(h:Int)(w:List Int)(x y:Int):Prop:=rB [Nat.blt 0 (A.len [x,y])] (rB [!A.not true] (bB (A.lt 20 (A.int (A.len w))) (F (AV.bool true) (none)) (rB [decide (List.length [hfE h,elE w (Go.IntKind.wrap .i64 (A.sub 15 (Go.IntKind.wrap .i64 (A.mul 2 h))))]≤1000000),List.all [AV.int .i64 (hfE h),AV.int .i64 (elE w (Go.IntKind.wrap .i64 (A.sub 15 (Go.IntKind.wrap .i64 (A.mul 2 h)))))] fun x=>AV.bx x&&Nat.beq (Zaf A x) 1,decide (List.length w≤1000000),decide (List.length w≤1000000),decide (List.length w≤1000000),decide (List.length w≤1000000),Nat.blt 1 (A.len [x,y]),Nat.blt 0 (A.len [x,y])] (bB (A.not (A.eq (Zaq [hfE h,elE w (Go.IntKind.wrap .i64 (A.sub 15 (Go.IntKind.wrap .i64 (A.mul 2 h))))]) 0)) (rB [Nat.blt 0 (A.len [x,y])] (bB (A.not (Zan (A.nth [x,y] 0) 0 15)) (bB (A.not (A.eq (prE (A.nth [x,y] 0) (A.nth [x,y] 1)) 2)) (False) (bB (A.not (A.eq (prI (A.nth [x,y] 0) (A.nth [x,y] 1)) 0)) (False) (bB (A.not (A.eq (hfE h) 0)) (bB (A.eq (Zei h w) (hfE h)) (bB (A.eq (Zaq [hfE h,elE w (Go.IntKind.wrap .i64 (A.sub 15 (Go.IntKind.wrap .i64 (A.mul 2 h))))]) (hfE h)) (rB [A.inR .i64 (A.add (A.int (A.len (Zcx h w))) (A.int 0))] (F (AV.bool (A.eq (A.add (A.int (A.len (Zcx h w))) (A.int 0)) 0)) (none))) (False)) (False)) (bB (A.not (A.eq (elE w 15) 0)) (bB (A.not (A.eq (Zei h w) (elE w 15))) (False) (bB (A.not (A.eq (A.int (A.len (Zcx h w))) 0)) (False) (rB [!A.eq (elE w 15) 0] (rB [A.inR .i64 (A.sub 15 (A.mul 2 h)),A.inR .i64 (A.mul 2 h)] (bB (A.not (A.eq (A.int (A.len w)) (A.sub 15 (A.mul 2 h)))) (rB [A.not (A.eq 10 0)] (bB (A.eq (Zaq [hfE h,elE w (Go.IntKind.wrap .i64 (A.sub 15 (Go.IntKind.wrap .i64 (A.mul 2 h))))]) 10) (F (AV.bool (A.eq (A.int 0) 0)) (none)) (False))) (rB [decide (List.length w≤1000000)] (bB (A.not (A.eq (ZaU w 0 15) 0)) (bB (A.eq (Zaq [hfE h,elE w (Go.IntKind.wrap .i64 (A.sub 15 (Go.IntKind.wrap .i64 (A.mul 2 h))))]) (ZaU w 0 15)) (F (AV.bool (A.eq (A.int 0) 0)) (none)) (False)) (rB [!A.eq (Zaq [hfE h,elE w (Go.IntKind.wrap .i64 (A.sub 15 (Go.IntKind.wrap .i64 (A.mul 2 h))))]) 0] (False))))))))) (rB [A.eq (elE w 15) 0] (bB (A.not (A.eq (Zei h w) 0)) (False) (rB [decide (hfB h=true∧okw w=true)] (rB [decide (List.length (Zcx h w)≤1000000)] (bB (A.not (decide (Zcx h w=syL w (Nat.mul 2 (Int.toNat h))))) (False) (rB [A.inR .i64 (A.sub 15 (A.mul 2 h)),A.inR .i64 (A.mul 2 h)] (bB (A.not (A.eq (A.int (A.len w)) (A.sub 15 (A.mul 2 h)))) (rB [A.not (A.eq 10 0)] (bB (A.eq (Zaq [hfE h,elE w (Go.IntKind.wrap .i64 (A.sub 15 (Go.IntKind.wrap .i64 (A.mul 2 h))))]) 10) (F (AV.bool (A.eq (A.int 0) 0)) (none)) (False))) (rB [decide (List.length w≤1000000)] (bB (A.not (A.eq (ZaU w 0 15) 0)) (bB (A.eq (Zaq [hfE h,elE w (Go.IntKind.wrap .i64 (A.sub 15 (Go.IntKind.wrap .i64 (A.mul 2 h))))]) (ZaU w 0 15)) (F (AV.bool (A.eq (A.int 0) 0)) (none)) (False)) (rB [!A.eq (Zaq [hfE h,elE w (Go.IntKind.wrap .i64 (A.sub 15 (Go.IntKind.wrap .i64 (A.mul 2 h))))]) 0] (False))))))))))))))) (rB [Nat.blt 1 (A.len [x,y])] (bB (A.not (Zan (A.nth [x,y] 1) 0 15)) (bB (A.not (A.eq (prE (A.nth [x,y] 0) (A.nth [x,y] 1)) 2)) (False) (bB (A.not (A.eq (prI (A.nth [x,y] 0) (A.nth [x,y] 1)) 0)) (False) (bB (A.not (A.eq (hfE h) 0)) (bB (A.eq (Zei h w) (hfE h)) (bB (A.eq (Zaq [hfE h,elE w (Go.IntKind.wrap .i64 (A.sub 15 (Go.IntKind.wrap .i64 (A.mul 2 h))))]) (hfE h)) (rB [A.inR .i64 (A.add (A.int (A.len (Zcx h w))) (A.int 0))] (F (AV.bool (A.eq (A.add (A.int (A.len (Zcx h w))) (A.int 0)) 0)) (none))) (False)) (False)) (bB (A.not (A.eq (elE w 15) 0)) (bB (A.not (A.eq (Zei h w) (elE w 15))) (False) (bB (A.not (A.eq (A.int (A.len (Zcx h w))) 0)) (False) (rB [!A.eq (elE w 15) 0] (rB [A.inR .i64 (A.sub 15 (A.mul 2 h)),A.inR .i64 (A.mul 2 h)] (bB (A.not (A.eq (A.int (A.len w)) (A.sub 15 (A.mul 2 h)))) (rB [A.not (A.eq 10 0)] (bB (A.eq (Zaq [hfE h,elE w (Go.IntKind.wrap .i64 (A.sub 15 (Go.IntKind.wrap .i64 (A.mul 2 h))))]) 10) (F (AV.bool (A.eq (A.int 0) 0)) (none)) (False))) (rB [decide (List.length w≤1000000)] (bB (A.not (A.eq (ZaU w 0 15) 0)) (bB (A.eq (Zaq [hfE h,elE w (Go.IntKind.wrap .i64 (A.sub 15 (Go.IntKind.wrap .i64 (A.mul 2 h))))]) (ZaU w 0 15)) (F (AV.bool (A.eq (A.int 0) 0)) (none)) (False)) (rB [!A.eq (Zaq [hfE h,elE w (Go.IntKind.wrap .i64 (A.sub 15 (Go.IntKind.wrap .i64 (A.mul 2 h))))]) 0] (False))))))))) (rB [A.eq (elE w 15) 0] (bB (A.not (A.eq (Zei h w) 0)) (False) (rB [decide (hfB h=true∧okw w=true)] (rB [decide (List.length (Zcx h w)≤1000000)] (bB (A.not (decide (Zcx h w=syL w (Nat.mul 2 (Int.toNat h))))) (False) (rB [A.inR .i64 (A.sub 15 (A.mul 2 h)),A.inR .i64 (A.mul 2 h)] (bB (A.not (A.eq (A.int (A.len w)) (A.sub 15 (A.mul 2 h)))) (rB [A.not (A.eq 10 0)] (bB (A.eq (Zaq [hfE h,elE w (Go.IntKind.wrap .i64 (A.sub 15 (Go.IntKind.wrap .i64 (A.mul 2 h))))]) 10) (F (AV.bool (A.eq (A.int 0) 0)) (none)) (False))) (rB [decide (List.length w≤1000000)] (bB (A.not (A.eq (ZaU w 0 15) 0)) (bB (A.eq (Zaq [hfE h,elE w (Go.IntKind.wrap .i64 (A.sub 15 (Go.IntKind.wrap .i64 (A.mul 2 h))))]) (ZaU w 0 15)) (F (AV.bool (A.eq (A.int 0) 0)) (none)) (False)) (rB [!A.eq (Zaq [hfE h,elE w (Go.IntKind.wrap .i64 (A.sub 15 (Go.IntKind.wrap .i64 (A.mul 2 h))))]) 0] (False))))))))))))))) (bB (A.not (A.eq (prE (A.nth [x,y] 0) (A.nth [x,y] 1)) 0)) (False) (rB [Nat.blt 0 (A.len [x,y])] (rB [Nat.blt 1 (A.len [x,y])] (rB [decide (elB (A.nth [x,y] 0)=true∧elB (A.nth [x,y] 1)=true)] (bB (A.not (A.eq (prI (A.nth [x,y] 0) (A.nth [x,y] 1)) (gM (A.nth [x,y] 0) (A.nth [x,y] 1)))) (False) (bB (A.not (A.eq (hfE h) 0)) (bB (A.eq (Zei h w) (hfE h)) (bB (A.eq (Zaq [hfE h,elE w (Go.IntKind.wrap .i64 (A.sub 15 (Go.IntKind.wrap .i64 (A.mul 2 h))))]) (hfE h)) (rB [A.inR .i64 (A.add (A.int (A.len (Zcx h w))) (A.int 0))] (F (AV.bool (A.eq (A.add (A.int (A.len (Zcx h w))) (A.int 0)) 0)) (none))) (False)) (False)) (bB (A.not (A.eq (elE w 15) 0)) (bB (A.not (A.eq (Zei h w) (elE w 15))) (False) (bB (A.not (A.eq (A.int (A.len (Zcx h w))) 0)) (False) (rB [!A.eq (elE w 15) 0] (rB [A.inR .i64 (A.sub 15 (A.mul 2 h)),A.inR .i64 (A.mul 2 h)] (bB (A.not (A.eq (A.int (A.len w)) (A.sub 15 (A.mul 2 h)))) (rB [A.not (A.eq 10 0)] (bB (A.eq (Zaq [hfE h,elE w (Go.IntKind.wrap .i64 (A.sub 15 (Go.IntKind.wrap .i64 (A.mul 2 h))))]) 10) (F (AV.bool (A.eq (A.int 0) 0)) (none)) (False))) (rB [decide (List.length w≤1000000)] (bB (A.not (A.eq (ZaU w 0 15) 0)) (bB (A.eq (Zaq [hfE h,elE w (Go.IntKind.wrap .i64 (A.sub 15 (Go.IntKind.wrap .i64 (A.mul 2 h))))]) (ZaU w 0 15)) (F (AV.bool (A.eq (A.int 0) 0)) (none)) (False)) (rB [!A.eq (Zaq [hfE h,elE w (Go.IntKind.wrap .i64 (A.sub 15 (Go.IntKind.wrap .i64 (A.mul 2 h))))]) 0] (False))))))))) (rB [A.eq (elE w 15) 0] (bB (A.not (A.eq (Zei h w) 0)) (False) (rB [decide (hfB h=true∧okw w=true)] (rB [decide (List.length (Zcx h w)≤1000000)] (bB (A.not (decide (Zcx h w=syL w (Nat.mul 2 (Int.toNat h))))) (False) (rB [A.inR .i64 (A.sub 15 (A.mul 2 h)),A.inR .i64 (A.mul 2 h)] (bB (A.not (A.eq (A.int (A.len w)) (A.sub 15 (A.mul 2 h)))) (rB [A.not (A.eq 10 0)] (bB (A.eq (Zaq [hfE h,elE w (Go.IntKind.wrap .i64 (A.sub 15 (Go.IntKind.wrap .i64 (A.mul 2 h))))]) 10) (F (AV.bool (A.eq (A.int 0) 0)) (none)) (False))) (rB [decide (List.length w≤1000000)] (bB (A.not (A.eq (ZaU w 0 15) 0)) (bB (A.eq (Zaq [hfE h,elE w (Go.IntKind.wrap .i64 (A.sub 15 (Go.IntKind.wrap .i64 (A.mul 2 h))))]) (ZaU w 0 15)) (F (AV.bool (A.eq (A.int 0) 0)) (none)) (False)) (rB [!A.eq (Zaq [hfE h,elE w (Go.IntKind.wrap .i64 (A.sub 15 (Go.IntKind.wrap .i64 (A.mul 2 h))))]) 0] (False)))))))))))))))))))))) (rB [Nat.blt 0 (A.len [x,y]),Nat.beq (A.len (enW h w)) 15,Nat.blt 0 (A.len [0,0,0,0,0,0,0,0,0,0,0,0,0,0,0]),decide (daB h w=true)] (bB (A.not (Zan (A.nth [x,y] 0) 0 15)) (bB (A.not (A.eq (prE (A.nth [x,y] 0) (A.nth [x,y] 1)) 2)) (False) (bB (A.not (A.eq (prI (A.nth [x,y] 0) (A.nth [x,y] 1)) 0)) (False) (bB (A.not (A.eq (hfE h) 0)) (bB (A.eq (Zei h w) (hfE h)) (bB (A.eq 0 (hfE h)) (rB [Zae (Nat.ble 15 (A.len (enW h w))) true] (rB [A.inR .i64 (A.add (A.int (A.len (Zcx h w))) (A.int (A.len (A.sub3 (enW h w) 0 15))))] (F (AV.bool (A.eq (A.add (A.int (A.len (Zcx h w))) (A.int (A.len (A.sub3 (enW h w) 0 15)))) 0)) (none)))) (False)) (False)) (bB (A.not (A.eq (elE w 15) 0)) (bB (A.not (A.eq (Zei h w) (elE w 15))) (False) (bB (A.not (A.eq (A.int (A.len (Zcx h w))) 0)) (False) (rB [!A.eq (elE w 15) 0] (rB [A.inR .i64 (A.sub 15 (A.mul 2 h)),A.inR .i64 (A.mul 2 h)] (bB (A.not (A.eq (A.int (A.len w)) (A.sub 15 (A.mul 2 h)))) (rB [A.not (A.eq 10 0)] (rB [!A.eq 0 10] (False))) (rB [decide (List.length w≤1000000)] (bB (A.not (A.eq (ZaU w 0 15) 0)) (bB (A.eq 0 (ZaU w 0 15)) (rB [Zae (Nat.ble 15 (A.len (enW h w))) true] (F (AV.bool (A.eq (A.int (A.len (A.sub3 (enW h w) 0 15))) 0)) (none))) (False)) (rB [A.eq 0 0] (rB [decide (daB h w=true)] (rB [Zae (Zae (Zae (Nat.ble 15 (A.len (enW h w))) true) true) (decide (List.length (A.sub3 (enW h w) 0 15)≤1000000))] (F (AV.bool (decide (A.sub3 (enW h w) 0 15=enW h w))) (none)))))))))))) (rB [A.eq (elE w 15) 0] (bB (A.not (A.eq (Zei h w) 0)) (False) (rB [decide (hfB h=true∧okw w=true)] (rB [decide (List.length (Zcx h w)≤1000000)] (bB (A.not (decide (Zcx h w=syL w (Nat.mul 2 (Int.toNat h))))) (False) (rB [A.inR .i64 (A.sub 15 (A.mul 2 h)),A.inR .i64 (A.mul 2 h)] (bB (A.not (A.eq (A.int (A.len w)) (A.sub 15 (A.mul 2 h)))) (rB [A.not (A.eq 10 0)] (rB [!A.eq 0 10] (False))) (rB [decide (List.length w≤1000000)] (bB (A.not (A.eq (ZaU w 0 15) 0)) (bB (A.eq 0 (ZaU w 0 15)) (rB [Zae (Nat.ble 15 (A.len (enW h w))) true] (F (AV.bool (A.eq (A.int (A.len (A.sub3 (enW h w) 0 15))) 0)) (none))) (False)) (rB [A.eq 0 0] (rB [decide (daB h w=true)] (rB [Zae (Zae (Zae (Nat.ble 15 (A.len (enW h w))) true) true) (decide (List.length (A.sub3 (enW h w) 0 15)≤1000000))] (F (AV.bool (decide (A.sub3 (enW h w) 0 15=enW h w))) (none)))))))))))))))))) (rB [Nat.blt 1 (A.len [x,y])] (bB (A.not (Zan (A.nth [x,y] 1) 0 15)) (bB (A.not (A.eq (prE (A.nth [x,y] 0) (A.nth [x,y] 1)) 2)) (False) (bB (A.not (A.eq (prI (A.nth [x,y] 0) (A.nth [x,y] 1)) 0)) (False) (bB (A.not (A.eq (hfE h) 0)) (bB (A.eq (Zei h w) (hfE h)) (bB (A.eq 0 (hfE h)) (rB [Zae (Nat.ble 15 (A.len (enW h w))) true] (rB [A.inR .i64 (A.add (A.int (A.len (Zcx h w))) (A.int (A.len (A.sub3 (enW h w) 0 15))))] (F (AV.bool (A.eq (A.add (A.int (A.len (Zcx h w))) (A.int (A.len (A.sub3 (enW h w) 0 15)))) 0)) (none)))) (False)) (False)) (bB (A.not (A.eq (elE w 15) 0)) (bB (A.not (A.eq (Zei h w) (elE w 15))) (False) (bB (A.not (A.eq (A.int (A.len (Zcx h w))) 0)) (False) (rB [!A.eq (elE w 15) 0] (rB [A.inR .i64 (A.sub 15 (A.mul 2 h)),A.inR .i64 (A.mul 2 h)] (bB (A.not (A.eq (A.int (A.len w)) (A.sub 15 (A.mul 2 h)))) (rB [A.not (A.eq 10 0)] (rB [!A.eq 0 10] (False))) (rB [decide (List.length w≤1000000)] (bB (A.not (A.eq (ZaU w 0 15) 0)) (bB (A.eq 0 (ZaU w 0 15)) (rB [Zae (Nat.ble 15 (A.len (enW h w))) true] (F (AV.bool (A.eq (A.int (A.len (A.sub3 (enW h w) 0 15))) 0)) (none))) (False)) (rB [A.eq 0 0] (rB [decide (daB h w=true)] (rB [Zae (Zae (Zae (Nat.ble 15 (A.len (enW h w))) true) true) (decide (List.length (A.sub3 (enW h w) 0 15)≤1000000))] (F (AV.bool (decide (A.sub3 (enW h w) 0 15=enW h w))) (none)))))))))))) (rB [A.eq (elE w 15) 0] (bB (A.not (A.eq (Zei h w) 0)) (False) (rB [decide (hfB h=true∧okw w=true)] (rB [decide (List.length (Zcx h w)≤1000000)] (bB (A.not (decide (Zcx h w=syL w (Nat.mul 2 (Int.toNat h))))) (False) (rB [A.inR .i64 (A.sub 15 (A.mul 2 h)),A.inR .i64 (A.mul 2 h)] (bB (A.not (A.eq (A.int (A.len w)) (A.sub 15 (A.mul 2 h)))) (rB [A.not (A.eq 10 0)] (rB [!A.eq 0 10] (False))) (rB [decide (List.length w≤1000000)] (bB (A.not (A.eq (ZaU w 0 15) 0)) (bB (A.eq 0 (ZaU w 0 15)) (rB [Zae (Nat.ble 15 (A.len (enW h w))) true] (F (AV.bool (A.eq (A.int (A.len (A.sub3 (enW h w) 0 15))) 0)) (none))) (False)) (rB [A.eq 0 0] (rB [decide (daB h w=true)] (rB [Zae (Zae (Zae (Nat.ble 15 (A.len (enW h w))) true) true) (decide (List.length (A.sub3 (enW h w) 0 15)≤1000000))] (F (AV.bool (decide (A.sub3 (enW h w) 0 15=enW h w))) (none)))))))))))))))))) (bB (A.not (A.eq (prE (A.nth [x,y] 0) (A.nth [x,y] 1)) 0)) (False) (rB [Nat.blt 0 (A.len [x,y])] (rB [Nat.blt 1 (A.len [x,y])] (rB [decide (elB (A.nth [x,y] 0)=true∧elB (A.nth [x,y] 1)=true)] (bB (A.not (A.eq (prI (A.nth [x,y] 0) (A.nth [x,y] 1)) (gM (A.nth [x,y] 0) (A.nth [x,y] 1)))) (False) (bB (A.not (A.eq (hfE h) 0)) (bB (A.eq (Zei h w) (hfE h)) (bB (A.eq 0 (hfE h)) (rB [Zae (Nat.ble 15 (A.len (enW h w))) true] (rB [A.inR .i64 (A.add (A.int (A.len (Zcx h w))) (A.int (A.len (A.sub3 (enW h w) 0 15))))] (F (AV.bool (A.eq (A.add (A.int (A.len (Zcx h w))) (A.int (A.len (A.sub3 (enW h w) 0 15)))) 0)) (none)))) (False)) (False)) (bB (A.not (A.eq (elE w 15) 0)) (bB (A.not (A.eq (Zei h w) (elE w 15))) (False) (bB (A.not (A.eq (A.int (A.len (Zcx h w))) 0)) (False) (rB [!A.eq (elE w 15) 0] (rB [A.inR .i64 (A.sub 15 (A.mul 2 h)),A.inR .i64 (A.mul 2 h)] (bB (A.not (A.eq (A.int (A.len w)) (A.sub 15 (A.mul 2 h)))) (rB [A.not (A.eq 10 0)] (rB [!A.eq 0 10] (False))) (rB [decide (List.length w≤1000000)] (bB (A.not (A.eq (ZaU w 0 15) 0)) (bB (A.eq 0 (ZaU w 0 15)) (rB [Zae (Nat.ble 15 (A.len (enW h w))) true] (F (AV.bool (A.eq (A.int (A.len (A.sub3 (enW h w) 0 15))) 0)) (none))) (False)) (rB [A.eq 0 0] (rB [decide (daB h w=true)] (rB [Zae (Zae (Zae (Nat.ble 15 (A.len (enW h w))) true) true) (decide (List.length (A.sub3 (enW h w) 0 15)≤1000000))] (F (AV.bool (decide (A.sub3 (enW h w) 0 15=enW h w))) (none)))))))))))) (rB [A.eq (elE w 15) 0] (bB (A.not (A.eq (Zei h w) 0)) (False) (rB [decide (hfB h=true∧okw w=true)] (rB [decide (List.length (Zcx h w)≤1000000)] (bB (A.not (decide (Zcx h w=syL w (Nat.mul 2 (Int.toNat h))))) (False) (rB [A.inR .i64 (A.sub 15 (A.mul 2 h)),A.inR .i64 (A.mul 2 h)] (bB (A.not (A.eq (A.int (A.len w)) (A.sub 15 (A.mul 2 h)))) (rB [A.not (A.eq 10 0)] (rB [!A.eq 0 10] (False))) (rB [decide (List.length w≤1000000)] (bB (A.not (A.eq (ZaU w 0 15) 0)) (bB (A.eq 0 (ZaU w 0 15)) (rB [Zae (Nat.ble 15 (A.len (enW h w))) true] (F (AV.bool (A.eq (A.int (A.len (A.sub3 (enW h w) 0 15))) 0)) (none))) (False)) (rB [A.eq 0 0] (rB [decide (daB h w=true)] (rB [Zae (Zae (Zae (Nat.ble 15 (A.len (enW h w))) true) true) (decide (List.length (A.sub3 (enW h w) 0 15)≤1000000))] (F (AV.bool (decide (A.sub3 (enW h w) 0 15=enW h w))) (none)))))))))))))))))))))))))))))
theorem ZGS{A:Ar}{K:KT}{F:FT}{M:MT}{h:Int}{w:List Int}{x y:Int} :Zam A tab Ki 4 K F M (.run 11 (.fy (.run 8 (.tf (.run 5 (.fn)) (.run 59 (.tf (.run 23 (.tf (.ty (.ty (.ty (.ty (.run 2 (.ty (.run 5 (.tf (.ty (.ty (.run 1 (.ty (.run 5 (.no)))))) (.fy (.fy (.run 1 (.tf (.run 5 (.no)) (.run 13 (.tf (.run 6 (.tf (.ty (.ty (.ty (.run 1 (.tf (.ty (.ty (.ty (.ty (.ty (.ty (.run 4 (.fn)))))))) (.fy (.fy (.fy (.fy (.fy (.fy (.run 4 (.no))))))))))))) (.fy (.fy (.fy (.run 1 (.fy (.fy (.fy (.fy (.fy (.fy (.fy (.run 4 (.no))))))))))))))) (.run 13 (.tf (.ty (.ty (.ty (.tf (.ty (.ty (.alt [true,true] (.ty (.run 1 (.ty (.ty (.ty (.run 10 (.ty (.ty (.run 2 (.ty (.run 5 (.no)))))))))))) (.no)))) (.fy (.fy (.alt [true,false] (.ty (.run 1 (.tf (.ty (.ty (.run 10 (.ty (.ty (.run 2 (.ty (.run 5 (.no))))))))) (.fy (.fy (.fy (.fy (.fy (.run 6 (.fy (.alt [false,false] (.fy (.run 2 (.fy (.run 11 (.tf (.run 9 (.ty (.run 6 (.tf (.ty (.ty (.ty (.run 4 (.fn))))) (.fy (.fy (.fy (.run 4 (.no))))))))) (.run 11 (.tf (.run 6 (.tf (.ty (.ty (.ty (.run 4 (.fn))))) (.fy (.fy (.fy (.run 4 (.no))))))) (.run 6 (.fy (.fy (.fy (.fy (.fy (.fy (.run 4 (.no)))))))))))))))) (.no)))))))))))) (.no)))))))) (.fy (.fy (.fy (.run 3 (.fy (.fy (.run 1 (.fy (.fy (.fy (.ty (.ty (.ty (.tf (.ty (.ty (.ty (.ty (.ty (.alt [true,true] (.alt [false,true] (.fy (.run 2 (.ty (.run 5 (.no))))) (.no)) (.no))))))) (.fy (.fy (.fy (.fy (.fy (.alt [true,false] (.alt [false,true] (.fy (.run 2 (.tf (.run 5 (.no)) (.run 11 (.tf (.run 9 (.ty (.run 6 (.tf (.ty (.ty (.ty (.run 4 (.fn))))) (.fy (.fy (.fy (.run 4 (.no))))))))) (.run 11 (.tf (.run 6 (.tf (.ty (.ty (.ty (.run 4 (.fn))))) (.fy (.fy (.fy (.run 4 (.no))))))) (.run 6 (.fy (.fy (.fy (.fy (.fy (.fy (.run 4 (.no)))))))))))))))) (.no)) (.no))))))))))))))))))))))))))))))))))))) (.fy (.fy (.fy (.fy (.run 2 (.tf (.run 5 (.tf (.ty (.ty (.run 1 (.ty (.run 5 (.no)))))) (.fy (.fy (.run 1 (.tf (.run 5 (.no)) (.run 13 (.tf (.run 6 (.tf (.ty (.ty (.ty (.run 1 (.tf (.ty (.ty (.ty (.ty (.ty (.ty (.run 4 (.fn)))))))) (.fy (.fy (.fy (.fy (.fy (.fy (.run 4 (.no))))))))))))) (.fy (.fy (.fy (.run 1 (.fy (.fy (.fy (.fy (.fy (.fy (.fy (.run 4 (.no))))))))))))))) (.run 13 (.tf (.ty (.ty (.ty (.tf (.ty (.ty (.alt [true,true] (.ty (.run 1 (.ty (.ty (.ty (.run 10 (.ty (.ty (.run 2 (.ty (.run 5 (.no)))))))))))) (.no)))) (.fy (.fy (.alt [true,false] (.ty (.run 1 (.tf (.ty (.ty (.run 10 (.ty (.ty (.run 2 (.ty (.run 5 (.no))))))))) (.fy (.fy (.fy (.fy (.fy (.run 6 (.fy (.alt [false,false] (.fy (.run 2 (.fy (.run 11 (.tf (.run 9 (.ty (.run 6 (.tf (.ty (.ty (.ty (.run 4 (.fn))))) (.fy (.fy (.fy (.run 4 (.no))))))))) (.run 11 (.tf (.run 6 (.tf (.ty (.ty (.ty (.run 4 (.fn))))) (.fy (.fy (.fy (.run 4 (.no))))))) (.run 6 (.fy (.fy (.fy (.fy (.fy (.fy (.run 4 (.no)))))))))))))))) (.no)))))))))))) (.no)))))))) (.fy (.fy (.fy (.run 3 (.fy (.fy (.run 1 (.fy (.fy (.fy (.ty (.ty (.ty (.tf (.ty (.ty (.ty (.ty (.ty (.alt [true,true] (.alt [false,true] (.fy (.run 2 (.ty (.run 5 (.no))))) (.no)) (.no))))))) (.fy (.fy (.fy (.fy (.fy (.alt [true,false] (.alt [false,true] (.fy (.run 2 (.tf (.run 5 (.no)) (.run 11 (.tf (.run 9 (.ty (.run 6 (.tf (.ty (.ty (.ty (.run 4 (.fn))))) (.fy (.fy (.fy (.run 4 (.no))))))))) (.run 11 (.tf (.run 6 (.tf (.ty (.ty (.ty (.run 4 (.fn))))) (.fy (.fy (.fy (.run 4 (.no))))))) (.run 6 (.fy (.fy (.fy (.fy (.fy (.fy (.run 4 (.no)))))))))))))))) (.no)) (.no))))))))))))))))))))))))))))))) (.run 5 (.tf (.ty (.ty (.ty (.ty (.ty (.ty (.ty (.run 2 (.ty (.run 5 (.no))))))))))) (.fy (.fy (.fy (.fy (.fy (.fy (.fy (.run 2 (.tf (.run 5 (.no)) (.run 13 (.tf (.run 6 (.tf (.ty (.ty (.ty (.run 1 (.tf (.ty (.ty (.ty (.ty (.ty (.ty (.run 4 (.fn)))))))) (.fy (.fy (.fy (.fy (.fy (.fy (.run 4 (.no))))))))))))) (.fy (.fy (.fy (.run 1 (.fy (.fy (.fy (.fy (.fy (.fy (.fy (.run 4 (.no))))))))))))))) (.run 13 (.tf (.ty (.ty (.ty (.tf (.ty (.ty (.alt [true,true] (.ty (.run 1 (.ty (.ty (.ty (.run 10 (.ty (.ty (.run 2 (.ty (.run 5 (.no)))))))))))) (.no)))) (.fy (.fy (.alt [true,false] (.ty (.run 1 (.tf (.ty (.ty (.run 10 (.ty (.ty (.run 2 (.ty (.run 5 (.no))))))))) (.fy (.fy (.fy (.fy (.fy (.run 6 (.fy (.alt [false,false] (.fy (.run 2 (.fy (.run 11 (.tf (.run 9 (.ty (.run 6 (.tf (.ty (.ty (.ty (.run 4 (.fn))))) (.fy (.fy (.fy (.run 4 (.no))))))))) (.run 11 (.tf (.run 6 (.tf (.ty (.ty (.ty (.run 4 (.fn))))) (.fy (.fy (.fy (.run 4 (.no))))))) (.run 6 (.fy (.fy (.fy (.fy (.fy (.fy (.run 4 (.no)))))))))))))))) (.no)))))))))))) (.no)))))))) (.fy (.fy (.fy (.run 3 (.fy (.fy (.run 1 (.fy (.fy (.fy (.ty (.ty (.ty (.tf (.ty (.ty (.ty (.ty (.ty (.alt [true,true] (.alt [false,true] (.fy (.run 2 (.ty (.run 5 (.no))))) (.no)) (.no))))))) (.fy (.fy (.fy (.fy (.fy (.alt [true,false] (.alt [false,true] (.fy (.run 2 (.tf (.run 5 (.no)) (.run 11 (.tf (.run 9 (.ty (.run 6 (.tf (.ty (.ty (.ty (.run 4 (.fn))))) (.fy (.fy (.fy (.run 4 (.no))))))))) (.run 11 (.tf (.run 6 (.tf (.ty (.ty (.ty (.run 4 (.fn))))) (.fy (.fy (.fy (.run 4 (.no))))))) (.run 6 (.fy (.fy (.fy (.fy (.fy (.fy (.run 4 (.no)))))))))))))))) (.no)) (.no)))))))))))))))))))))))))))))))))))))))))))) (.run 32 (.tf (.ty (.ty (.ty (.ty (.run 2 (.ty (.run 5 (.tf (.ty (.ty (.run 1 (.ty (.run 5 (.no)))))) (.fy (.fy (.run 1 (.tf (.run 5 (.no)) (.run 13 (.tf (.run 6 (.tf (.ty (.ty (.ty (.run 1 (.tf (.ty (.ty (.ty (.ty (.ty (.ty (.run 4 (.fn)))))))) (.fy (.fy (.fy (.fy (.fy (.fy (.run 4 (.no))))))))))))) (.fy (.fy (.fy (.run 1 (.fy (.fy (.fy (.fy (.fy (.fy (.fy (.run 4 (.no))))))))))))))) (.run 13 (.tf (.ty (.ty (.ty (.tf (.ty (.ty (.alt [true,true] (.ty (.run 1 (.ty (.ty (.ty (.run 10 (.ty (.ty (.run 2 (.ty (.run 5 (.no)))))))))))) (.no)))) (.fy (.fy (.alt [true,false] (.ty (.run 1 (.tf (.ty (.ty (.run 10 (.ty (.ty (.run 2 (.ty (.run 5 (.no))))))))) (.fy (.fy (.fy (.fy (.fy (.run 6 (.fy (.alt [false,false] (.fy (.run 2 (.fy (.run 11 (.tf (.run 9 (.ty (.run 6 (.fy (.fy (.fy (.fy (.run 4 (.no))))))))) (.run 11 (.tf (.run 6 (.tf (.ty (.ty (.ty (.run 4 (.fn))))) (.fy (.fy (.fy (.run 4 (.no))))))) (.run 6 (.ty (.ty (.ty (.ty (.ty (.ty (.run 4 (.fn)))))))))))))))) (.no)))))))))))) (.no)))))))) (.fy (.fy (.fy (.run 3 (.fy (.fy (.run 1 (.fy (.fy (.fy (.ty (.ty (.ty (.tf (.ty (.ty (.ty (.ty (.ty (.alt [true,true] (.alt [false,true] (.fy (.run 2 (.ty (.run 5 (.no))))) (.no)) (.no))))))) (.fy (.fy (.fy (.fy (.fy (.alt [true,false] (.alt [false,true] (.fy (.run 2 (.tf (.run 5 (.no)) (.run 11 (.tf (.run 9 (.ty (.run 6 (.fy (.fy (.fy (.fy (.run 4 (.no))))))))) (.run 11 (.tf (.run 6 (.tf (.ty (.ty (.ty (.run 4 (.fn))))) (.fy (.fy (.fy (.run 4 (.no))))))) (.run 6 (.ty (.ty (.ty (.ty (.ty (.ty (.run 4 (.fn)))))))))))))))) (.no)) (.no))))))))))))))))))))))))))))))))))))) (.fy (.fy (.fy (.fy (.run 2 (.tf (.run 5 (.tf (.ty (.ty (.run 1 (.ty (.run 5 (.no)))))) (.fy (.fy (.run 1 (.tf (.run 5 (.no)) (.run 13 (.tf (.run 6 (.tf (.ty (.ty (.ty (.run 1 (.tf (.ty (.ty (.ty (.ty (.ty (.ty (.run 4 (.fn)))))))) (.fy (.fy (.fy (.fy (.fy (.fy (.run 4 (.no))))))))))))) (.fy (.fy (.fy (.run 1 (.fy (.fy (.fy (.fy (.fy (.fy (.fy (.run 4 (.no))))))))))))))) (.run 13 (.tf (.ty (.ty (.ty (.tf (.ty (.ty (.alt [true,true] (.ty (.run 1 (.ty (.ty (.ty (.run 10 (.ty (.ty (.run 2 (.ty (.run 5 (.no)))))))))))) (.no)))) (.fy (.fy (.alt [true,false] (.ty (.run 1 (.tf (.ty (.ty (.run 10 (.ty (.ty (.run 2 (.ty (.run 5 (.no))))))))) (.fy (.fy (.fy (.fy (.fy (.run 6 (.fy (.alt [false,false] (.fy (.run 2 (.fy (.run 11 (.tf (.run 9 (.ty (.run 6 (.fy (.fy (.fy (.fy (.run 4 (.no))))))))) (.run 11 (.tf (.run 6 (.tf (.ty (.ty (.ty (.run 4 (.fn))))) (.fy (.fy (.fy (.run 4 (.no))))))) (.run 6 (.ty (.ty (.ty (.ty (.ty (.ty (.run 4 (.fn)))))))))))))))) (.no)))))))))))) (.no)))))))) (.fy (.fy (.fy (.run 3 (.fy (.fy (.run 1 (.fy (.fy (.fy (.ty (.ty (.ty (.tf (.ty (.ty (.ty (.ty (.ty (.alt [true,true] (.alt [false,true] (.fy (.run 2 (.ty (.run 5 (.no))))) (.no)) (.no))))))) (.fy (.fy (.fy (.fy (.fy (.alt [true,false] (.alt [false,true] (.fy (.run 2 (.tf (.run 5 (.no)) (.run 11 (.tf (.run 9 (.ty (.run 6 (.fy (.fy (.fy (.fy (.run 4 (.no))))))))) (.run 11 (.tf (.run 6 (.tf (.ty (.ty (.ty (.run 4 (.fn))))) (.fy (.fy (.fy (.run 4 (.no))))))) (.run 6 (.ty (.ty (.ty (.ty (.ty (.ty (.run 4 (.fn)))))))))))))))) (.no)) (.no))))))))))))))))))))))))))))))) (.run 5 (.tf (.ty (.ty (.ty (.ty (.ty (.ty (.ty (.run 2 (.ty (.run 5 (.no))))))))))) (.fy (.fy (.fy (.fy (.fy (.fy (.fy (.run 2 (.tf (.run 5 (.no)) (.run 13 (.tf (.run 6 (.tf (.ty (.ty (.ty (.run 1 (.tf (.ty (.ty (.ty (.ty (.ty (.ty (.run 4 (.fn)))))))) (.fy (.fy (.fy (.fy (.fy (.fy (.run 4 (.no))))))))))))) (.fy (.fy (.fy (.run 1 (.fy (.fy (.fy (.fy (.fy (.fy (.fy (.run 4 (.no))))))))))))))) (.run 13 (.tf (.ty (.ty (.ty (.tf (.ty (.ty (.alt [true,true] (.ty (.run 1 (.ty (.ty (.ty (.run 10 (.ty (.ty (.run 2 (.ty (.run 5 (.no)))))))))))) (.no)))) (.fy (.fy (.alt [true,false] (.ty (.run 1 (.tf (.ty (.ty (.run 10 (.ty (.ty (.run 2 (.ty (.run 5 (.no))))))))) (.fy (.fy (.fy (.fy (.fy (.run 6 (.fy (.alt [false,false] (.fy (.run 2 (.fy (.run 11 (.tf (.run 9 (.ty (.run 6 (.fy (.fy (.fy (.fy (.run 4 (.no))))))))) (.run 11 (.tf (.run 6 (.tf (.ty (.ty (.ty (.run 4 (.fn))))) (.fy (.fy (.fy (.run 4 (.no))))))) (.run 6 (.ty (.ty (.ty (.ty (.ty (.ty (.run 4 (.fn)))))))))))))))) (.no)))))))))))) (.no)))))))) (.fy (.fy (.fy (.run 3 (.fy (.fy (.run 1 (.fy (.fy (.fy (.ty (.ty (.ty (.tf (.ty (.ty (.ty (.ty (.ty (.alt [true,true] (.alt [false,true] (.fy (.run 2 (.ty (.run 5 (.no))))) (.no)) (.no))))))) (.fy (.fy (.fy (.fy (.fy (.alt [true,false] (.alt [false,true] (.fy (.run 2 (.tf (.run 5 (.no)) (.run 11 (.tf (.run 9 (.ty (.run 6 (.fy (.fy (.fy (.fy (.run 4 (.no))))))))) (.run 11 (.tf (.run 6 (.tf (.ty (.ty (.ty (.run 4 (.fn))))) (.fy (.fy (.fy (.run 4 (.no))))))) (.run 6 (.ty (.ty (.ty (.ty (.ty (.ty (.run 4 (.fn)))))))))))))))) (.no)) (.no)))))))))))))))))))))))))))))))))))))))))))))))))) (f4e h w x y) []=Zev A K F h w x y:=by kernel_rfl
end Go.Proofs.Ytklbmkllepkjcaa
/- The law of products, syndromes and words with data: the walk. No condition. -/
namespace Go.Proofs.Ytklbmkllepkjcaa
theorem Zoo(h:Int)(w:List Int)(x y:Int):Zah Try.prog 4 [.int .i64 h, .list (.ints .i64 w), .agg (.ints .i64 [x,y])] (.bool true) none:=by
 refine start (Zxs h w x y) fun C hC=>tgo hC ZDF ZGS ?_
 by_cases hl:(20:Int)<w.length
 ·simp[Zev,hl]
 have hl2:w.length≤1000000:=by omega
 -- the product
 have hpr:(Zan x 0 15=false∨Zan y 0 15=false)∧prE x y=2∧prI x y=0∨Zan x 0 15=true∧Zan y 0 15=true∧prE x y=0∧prI x y=gM x y∧elB x=true∧elB y=true:=by
  have e:prE x y=if Zan x 0 15=true∧Zan y 0 15=true then 0 else 2:=by
   unfold prE ZaU
   simp only[List.all_cons,List.all_nil,Bool.and_true,Bool.and_eq_true]
  by_cases hb:Zan x 0 15=true∧Zan y 0 15=true
  ·rw[if_pos hb]at e
   exact .inr ⟨hb.1,hb.2,e,by unfold prI;rw[if_pos e],hb.1,hb.2⟩
  ·rw[if_neg hb]at e
   refine .inl ⟨?_,e,by unfold prI;rw[if_neg (by rw[e];decide)]⟩
   cases hx:Zan x 0 15 with
   |false=>exact .inl rfl
   |true=>cases hy:Zan y 0 15 with
    |false=>exact .inr rfl
    |true=>exact absurd ⟨hx,hy⟩ hb
 by_cases hh:hfE h=0
 ·have h3:=ZtA hh
  have hw1:IntKind.i64.wrap (2*h)=2*h:=by rw[IntKind.wrap_i64];omega
  have hw2:IntKind.i64.wrap (15-2*h)=15-2*h:=by rw[IntKind.wrap_i64];omega
  have hhb:hfB h=true:=decide_eq_true h3
  have f1:∀n,Zaq [hfE h,n]=n:=fun n=>by by_cases hn:n=0<;>simp[Zaq,hh,hn]
  have hsy:(elE w 15≠0∧Zei h w=elE w 15∧Zcx h w=[])∨(elE w 15=0∧Zei h w=0∧okw w=true∧Zcx h w=syL w (2*h.toNat)∧(syL w (2*h.toNat)).length≤1000000):=by
   have e:Zei h w=elE w 15:=f1 _
   by_cases h0:elE w 15=0
   ·obtain⟨a,b⟩:=ZoV h0
    exact .inr ⟨h0,by rw[e,h0],okw_iff.2 ⟨by omega,b⟩,by unfold Zcx;rw[if_pos (by rw[e,h0])],by rw[Zdd];omega⟩
   ·exact .inl ⟨h0,e,by unfold Zcx;rw[if_neg (by rw[e];exact h0)]⟩
  have hen:(elE w (15-2*h)=10∧¬(w.length:Int)=15-2*h)∨((w.length:Int)=15-2*h∧elE w (15-2*h)=ZaU w 0 15∧ZaU w 0 15≠0)∨((w.length:Int)=15-2*h∧elE w (15-2*h)=0∧ZaU w 0 15=0∧daB h w=true∧(enW h w).length=15):=by
   by_cases h0:(w.length:Int)=15-2*h
   ·have e:elE w (15-2*h)=ZaU w 0 15:=by
     unfold elE ZaM
     simp only[h0,decide_true,if_true,Zaq]
     by_cases hr:ZaU w 0 15=0<;>simp[hr]
    by_cases hr:ZaU w 0 15=0
    ·have hd:daB h w=true:=by
      unfold daB;rw[Bool.and_eq_true];exact⟨hhb,decide_eq_true (by rw[e,hr])⟩
     refine .inr (.inr ⟨h0,by rw[e,hr],hr,hd,?_⟩)
     exact(okw_iff.1 (Zt4 (Zng hd))).1
    ·exact .inr (.inl ⟨h0,e,hr⟩)
   ·exact .inl ⟨by simp[elE,ZaM,h0,Zaq],h0⟩
  have b1: -9223372036854775808≤15-2*h∧15-2*h≤9223372036854775807:=by omega
  have b2: -9223372036854775808≤2*h∧2*h≤9223372036854775807:=by omega
  have t15:(enW h w).length=15→(enW h w).take 15=enW h w:=fun e=>List.take_of_length_le (by omega)
  have hz:(10:Int)≠0:=by decide
  have f2:∀n,Zaq [0,n]=n:=fun n=>by by_cases hn:n=0<;>simp[Zaq,hn]
  rcases hpr with⟨p1,p2,p3⟩ |⟨p1,p2,p3,p4,p5,p6⟩
  ·rcases p1 with p1 |p1
   ·rcases hsy with⟨s1,s2,s3⟩ |⟨s1,s2,s3,s4,s5⟩
    ·rcases hen with⟨n1,n2⟩ |⟨n1,n2,n3⟩ |⟨n1,n2,n3,n4,n5⟩
     ·simp[Zev,hl,hl2,f2,hh,p1,p2,p3,s1,s2,s3,n1,n2,hw1,hw2,hhb,AV.bx,Zaf]
      try omega
     ·simp[Zev,hl,hl2,f2,hh,p1,p2,p3,s1,s2,s3,n1,n2,n3,hw1,hw2,hhb,AV.bx,Zaf]
      try omega
     ·simp[Zev,hl,hl2,f2,hh,p1,p2,p3,s1,s2,s3,n1,n2,n3,n4,n5,t15 n5,hw1,hw2,hhb,AV.bx,Zaf]
      try omega
    ·rcases hen with⟨n1,n2⟩ |⟨n1,n2,n3⟩ |⟨n1,n2,n3,n4,n5⟩
     ·simp[Zev,hl,hl2,f2,hh,p1,p2,p3,s1,s2,s3,s4,s5,n1,n2,hw1,hw2,hhb,AV.bx,Zaf]
      try omega
     ·simp[Zev,hl,hl2,f2,hh,p1,p2,p3,s1,s2,s3,s4,s5,n1,n2,n3,hw1,hw2,hhb,AV.bx,Zaf]
      try omega
     ·simp[Zev,hl,hl2,f2,hh,p1,p2,p3,s1,s2,s3,s4,s5,n1,n2,n3,n4,n5,t15 n5,hw1,hw2,hhb,AV.bx,Zaf]
      try omega
   ·cases hx:Zan x 0 15
    ·rcases hsy with⟨s1,s2,s3⟩ |⟨s1,s2,s3,s4,s5⟩
     ·rcases hen with⟨n1,n2⟩ |⟨n1,n2,n3⟩ |⟨n1,n2,n3,n4,n5⟩
      ·simp[Zev,hl,hl2,f2,hh,p1,p2,p3,hx,s1,s2,s3,n1,n2,hw1,hw2,hhb,AV.bx,Zaf]
       try omega
      ·simp[Zev,hl,hl2,f2,hh,p1,p2,p3,hx,s1,s2,s3,n1,n2,n3,hw1,hw2,hhb,AV.bx,Zaf]
       try omega
      ·simp[Zev,hl,hl2,f2,hh,p1,p2,p3,hx,s1,s2,s3,n1,n2,n3,n4,n5,t15 n5,hw1,hw2,hhb,AV.bx,Zaf]
       try omega
     ·rcases hen with⟨n1,n2⟩ |⟨n1,n2,n3⟩ |⟨n1,n2,n3,n4,n5⟩
      ·simp[Zev,hl,hl2,f2,hh,p1,p2,p3,hx,s1,s2,s3,s4,s5,n1,n2,hw1,hw2,hhb,AV.bx,Zaf]
       try omega
      ·simp[Zev,hl,hl2,f2,hh,p1,p2,p3,hx,s1,s2,s3,s4,s5,n1,n2,n3,hw1,hw2,hhb,AV.bx,Zaf]
       try omega
      ·simp[Zev,hl,hl2,f2,hh,p1,p2,p3,hx,s1,s2,s3,s4,s5,n1,n2,n3,n4,n5,t15 n5,hw1,hw2,hhb,AV.bx,Zaf]
       try omega
    ·rcases hsy with⟨s1,s2,s3⟩ |⟨s1,s2,s3,s4,s5⟩
     ·rcases hen with⟨n1,n2⟩ |⟨n1,n2,n3⟩ |⟨n1,n2,n3,n4,n5⟩
      ·simp[Zev,hl,hl2,f2,hh,p1,p2,p3,hx,s1,s2,s3,n1,n2,hw1,hw2,hhb,AV.bx,Zaf]
       try omega
      ·simp[Zev,hl,hl2,f2,hh,p1,p2,p3,hx,s1,s2,s3,n1,n2,n3,hw1,hw2,hhb,AV.bx,Zaf]
       try omega
      ·simp[Zev,hl,hl2,f2,hh,p1,p2,p3,hx,s1,s2,s3,n1,n2,n3,n4,n5,t15 n5,hw1,hw2,hhb,AV.bx,Zaf]
       try omega
     ·rcases hen with⟨n1,n2⟩ |⟨n1,n2,n3⟩ |⟨n1,n2,n3,n4,n5⟩
      ·simp[Zev,hl,hl2,f2,hh,p1,p2,p3,hx,s1,s2,s3,s4,s5,n1,n2,hw1,hw2,hhb,AV.bx,Zaf]
       try omega
      ·simp[Zev,hl,hl2,f2,hh,p1,p2,p3,hx,s1,s2,s3,s4,s5,n1,n2,n3,hw1,hw2,hhb,AV.bx,Zaf]
       try omega
      ·simp[Zev,hl,hl2,f2,hh,p1,p2,p3,hx,s1,s2,s3,s4,s5,n1,n2,n3,n4,n5,t15 n5,hw1,hw2,hhb,AV.bx,Zaf]
       try omega
  ·rcases hsy with⟨s1,s2,s3⟩ |⟨s1,s2,s3,s4,s5⟩
   ·rcases hen with⟨n1,n2⟩ |⟨n1,n2,n3⟩ |⟨n1,n2,n3,n4,n5⟩
    ·simp[Zev,hl,hl2,f2,hh,p1,p2,p3,p4,p5,p6,s1,s2,s3,n1,n2,hw1,hw2,hhb,AV.bx,Zaf]
     try omega
    ·simp[Zev,hl,hl2,f2,hh,p1,p2,p3,p4,p5,p6,s1,s2,s3,n1,n2,n3,hw1,hw2,hhb,AV.bx,Zaf]
     try omega
    ·simp[Zev,hl,hl2,f2,hh,p1,p2,p3,p4,p5,p6,s1,s2,s3,n1,n2,n3,n4,n5,t15 n5,hw1,hw2,hhb,AV.bx,Zaf]
     try omega
   ·rcases hen with⟨n1,n2⟩ |⟨n1,n2,n3⟩ |⟨n1,n2,n3,n4,n5⟩
    ·simp[Zev,hl,hl2,f2,hh,p1,p2,p3,p4,p5,p6,s1,s2,s3,s4,s5,n1,n2,hw1,hw2,hhb,AV.bx,Zaf]
     try omega
    ·simp[Zev,hl,hl2,f2,hh,p1,p2,p3,p4,p5,p6,s1,s2,s3,s4,s5,n1,n2,n3,hw1,hw2,hhb,AV.bx,Zaf]
     try omega
    ·simp[Zev,hl,hl2,f2,hh,p1,p2,p3,p4,p5,p6,s1,s2,s3,s4,s5,n1,n2,n3,n4,n5,t15 n5,hw1,hw2,hhb,AV.bx,Zaf]
     try omega
 ·have f1:∀n,Zaq [hfE h,n]=hfE h:=fun n=>by simp[Zaq,hh]
  have e1:Zei h w=hfE h:=f1 _
  have e2:Zcx h w=[]:=by unfold Zcx;rw[if_neg (by rw[e1];exact hh)]
  rcases hpr with⟨p1,p2,p3⟩ |⟨p1,p2,p3,p4,p5,p6⟩
  ·rcases p1 with p1 |p1
   ·simp[Zev,hl,hl2,f1,hh,e1,e2,p1,p2,p3,AV.bx,Zaf]
   ·cases hx:Zan x 0 15<;>simp[Zev,hl,hl2,f1,hh,e1,e2,p1,p2,p3,hx,AV.bx,Zaf]
  ·simp[Zev,hl,hl2,f1,hh,e1,e2,p1,p2,p3,p4,p5,p6,AV.bx,Zaf]
end Go.Proofs.Ytklbmkllepkjcaa
/- CodeBlocks: for every input it returns true, and the arguments read as they did. No condition. -/
namespace Go.Proofs.Ytklbmkllepkjcaa
open Go.ChangeShapes Go.WideShapes Go.ChangeAt Go.RowKit
theorem sh4_0:Zs4 Try.prog 8 3=some [.int .i64]:=by kernel_rfl
theorem sh4_1:Zs4 Try.prog 8 25=some [.ints .i64]:=by kernel_rfl
theorem sh4_2:Zs4 Try.prog 8 22=some [.int .i64, .int .i64]:=by kernel_rfl
set_option maxRecDepth 100000 in
theorem law4(os:Os)(started:os.Started)(H:Type)(enc:TypeId×Value→H):
 ReturnsInHanded {} Try.checked os 4 .any (Rows.codeBlocksSpec.pre6 enc Try.prog Try.f4 Rows.codeBlocksRow.domain false) (Rows.codeBlocksSpec.post enc Try.prog Try.f4 false true false false):=by
 refine returnsInHanded_of_change (C:=Try.checked) own started (by kernel_rfl) Try.func4
  (ChangeSpec.witness6 (enc:=enc) (C:=Try.checked) false ⟨#[], #[.int .i64 0, .slice none 0 0, .agg #[.int .i64 0, .int .i64 0]],[]⟩ 8 (by kernel_rfl) (by kernel_rfl) (by kernel_rfl) (by kernel_rfl)) ?_
 intro W base args ds gs before hval0 hW _ _
 have hval:∀(j:Nat) t v,Try.f4.params[j]? =some t→args[j]? =some v→Value.okWide Try.prog W .any base t v:=hval0
 have hW':=hW
 obtain⟨p,q,hA0,hV,rfl,_,_⟩:=hW
 have hA:DataW.TrodAll enc Try.prog W 0 (fun _=>true) true Try.f4.params.toList args.toList ds p:=hA0
 rw[Try.params4]at hA hval
 obtain⟨v0,v1,v2,d0,d1,d2,p0,p1,p2,rfl,rfl,rfl,h0,h1,h2⟩:=trodAll_three hA
 obtain⟨rfl,rfl⟩:=trodVars_none hV
 have hlt:∀x∈p0++(p1++p2),x.block<W.heap.size:=fun x hx=>by simpa using hW'.lt x (by simpa using hx)
 obtain⟨u0,r0,c0⟩:=Zt8 (L:=⟨fun _ _=>0,fun _ _=>0⟩) sh4_0 (by obtain⟨x,rfl⟩:=okWide_int Try.underlying3 (hval 0 3 v0 rfl rfl);rfl) h0
 obtain⟨hf,rfl,_⟩:=ZqN c0
 obtain⟨u1,r1,c1⟩:=Zt8 (L:=⟨fun _ _=>0,fun _ _=>0⟩) sh4_1 (by obtain⟨a,l,c,rfl⟩:=okWide_slice Try.underlying25 (hval 1 25 v1 rfl rfl);rfl) h1
 obtain⟨w,rfl,_⟩:=ZuS c1
 obtain⟨us2,r2,c2⟩:=ZBb (L:=⟨fun _ _=>0,fun _ _=>0⟩) sh4_2 (ZoB Try.underlying22 (hval 2 22 v2 rfl rfl)) h2
 obtain⟨x,y,rfl,_⟩:=ZC4 c2
 refine(Ztl trivial (Zoo hf w x y) (RelL.cons ( r0) (RelL.cons ( r1) (RelL.cons (Zl4 (r:=.gen [.int .i64 x, .int .i64 y]) (r':=.ints .i64 [x,y]) rfl r2) RelL.nil)))).mono fun e W' ⟨he,hb⟩=>?_
 subst he
 refine⟨_,rfl,_,_,_,[],p0++(p1++p2),[],hW',trodAll_mk1 (shut_bool Try.underlying4 true),?_,rfl,hb.frame _,fun h=>by cases h⟩
 exact trodAll_mk3 (Below.trod ZlJ (by kernel_rfl) (of_decide_eq_true (by kernel_rfl)) h0 hb (fun x hx=>hlt x (List.mem_append_left _ hx))) (Below.trod ZlJ (by kernel_rfl) (of_decide_eq_true (by kernel_rfl)) h1 hb (fun x hx=>hlt x (List.mem_append_right _ (List.mem_append_left _ hx)))) (Below.trod ZlJ (by kernel_rfl) (of_decide_eq_true (by kernel_rfl)) h2 hb (fun x hx=>hlt x (List.mem_append_right _ (List.mem_append_right _ hx))))
theorem n4 : Try.checked.prog.funcNamed "cassegrain/cassegrainlaw05.CodeBlocks" = some 4 := by kernel_rfl
theorem j4:joinedFacts Try.checked.prog 4 Try.f4 Rows.codeBlocksSpec Rows.codeBlocksRow=true:=by kernel_rfl
theorem i4:Try.f4.isInstance Try.checked.prog Rows.codeBlocksRow.origin Rows.codeBlocksRow.targs:=of_decide_eq_true (by kernel_rfl)
theorem w4:Try.f4.isWrapper Try.checked.prog Rows.codeBlocksRow.wrapper Rows.codeBlocksRow.mainSum:=by
 unfold Func.isWrapper
 first |(rw [if_pos (by decide +kernel)];kernel_rfl) |(rw [if_neg (by decide +kernel)];exact⟨rfl,rfl⟩)
theorem CodeBlocks_holds:Rows.CodeBlocksSaid:=
 OpenClaim.holds_of_wide 4 Try.f4 rfl rfl rfl rfl rfl rfl rfl ⟨rfl,rfl,rfl,rfl,rfl⟩ rfl rfl rfl rfl rfl n4 Try.func4 j4 i4 w4 (fun os started H enc _=>law4 os started H enc)
#print axioms CodeBlocks_holds
end Go.Proofs.Ytklbmkllepkjcaa
