/- Paths of functions, printed by the explorer (Gx). No condition. -/
import Derived.Test.YtklbmkllepkjcaaSb
import Derived.KernelRfl
namespace Go.Proofs.Ytklbmkllepkjcaa
set_option maxRecDepth 100000
set_option linter.unusedVariables false
def Zx9(m g0 g1:Int):AFrame:={ fn:=63,N:=15,env:=[(0,AV.agg (.ints .i64 [m,g0,g1]))],todo:=[.code a63.code],defs:=[],rnd:=none,ret:=false,res:=[ARes.tmp 2] }
def ZDH(m g0 g1:Int):List AFrame:=[(Zx9 m g0 g1)]
theorem ZsX(m g0 g1:Int):Zax tab 63 [AV.agg (.ints .i64 [m,g0,g1])]=some (Zx9 m g0 g1):=rfl
def ZuD(A:Ar)(K:KT)(F:FT)(m g0 g1:Int):Prop:=rB [Nat.blt 0 (A.len [m,g0,g1]),Nat.blt 0 (A.len [m,g0,g1])] (bB (A.not (Zas (A.nth [m,g0,g1] 0) 1 3)) (F (AV.int .i64 2) (none)) (rB [Zag (Zag (Zag (Nat.ble 3 (A.len [m,g0,g1])) true) true) (decide (List.length (A.sub3 [m,g0,g1] 1 2)≤1000000)),A.inR .i64 (A.sub (A.shl 1 (A.add (A.nth [m,g0,g1] 0) 1)) 1),Zag (Zag (A.le 0 (A.add (A.nth [m,g0,g1] 0) 1)) (Nat.blt (A.nat (A.add (A.nth [m,g0,g1] 0) 1)) 64)) (A.inR .i64 (A.shl 1 (A.add (A.nth [m,g0,g1] 0) 1))),A.inR .i64 (A.add (A.nth [m,g0,g1] 0) 1),Nat.blt 0 (A.len [m,g0,g1])] (F (AV.int .i64 (Zdr (A.sub3 [m,g0,g1] 1 2) 1 (A.sub (A.shl 1 (A.add (A.nth [m,g0,g1] 0) 1)) 1))) (none))))
theorem ZAP{A:Ar}{K:KT}{F:FT}{M:MT}{m g0 g1:Int} :ZaA A tab N2 63 K F M (.run 13 (.tf (.run 5 (.fn)) (.run 5 (.fn)))) (ZDH m g0 g1) []=ZuD A K F m g0 g1:=by kernel_rfl
def Zwy(m g0 g1:Int):AFrame:={ fn:=28,N:=29,env:=[(0,AV.agg (.ints .i64 [m,g0,g1]))],todo:=[.code a28.code],defs:=[],rnd:=none,ret:=false,res:=[ARes.tmp 2] }
def ZC5(m g0 g1:Int):List AFrame:=[(Zwy m g0 g1)]
theorem ZtN(m g0 g1:Int):Zax tab 28 [AV.agg (.ints .i64 [m,g0,g1])]=some (Zwy m g0 g1):=rfl
def Zvd(A:Ar)(K:KT)(F:FT)(m g0 g1:Int):Prop:=rB [Nat.blt 0 (A.len [m,g0,g1])] (qB [A.not (Zas (A.nth [m,g0,g1] 0) 1 3),Nat.blt 0 (A.len [m,g0,g1])] (F (AV.int .i64 2) (none)) (qB [A.not (Zas (A.nth [m,g0,g1] 1) 1 (A.sub (A.shl 2 (A.nth [m,g0,g1] 0)) 1)),A.inR .i64 (A.sub (A.shl 2 (A.nth [m,g0,g1] 0)) 1),Zag (Zag (A.le 0 (A.nth [m,g0,g1] 0)) (Nat.blt (A.nat (A.nth [m,g0,g1] 0)) 64)) (A.inR .i64 (A.shl 2 (A.nth [m,g0,g1] 0))),Nat.blt 0 (A.len [m,g0,g1]),Nat.blt 1 (A.len [m,g0,g1]),!A.not (Zas (A.nth [m,g0,g1] 0) 1 3),Nat.blt 0 (A.len [m,g0,g1])] (F (AV.int .i64 2) (none)) (rB [A.inR .i64 (A.sub (A.shl 2 (A.nth [m,g0,g1] 0)) 1),Zag (Zag (A.le 0 (A.nth [m,g0,g1] 0)) (Nat.blt (A.nat (A.nth [m,g0,g1] 0)) 64)) (A.inR .i64 (A.shl 2 (A.nth [m,g0,g1] 0))),Nat.blt 0 (A.len [m,g0,g1]),Nat.blt 2 (A.len [m,g0,g1]),!A.not (Zas (A.nth [m,g0,g1] 1) 1 (A.sub (A.shl 2 (A.nth [m,g0,g1] 0)) 1)),A.inR .i64 (A.sub (A.shl 2 (A.nth [m,g0,g1] 0)) 1),Zag (Zag (A.le 0 (A.nth [m,g0,g1] 0)) (Nat.blt (A.nat (A.nth [m,g0,g1] 0)) 64)) (A.inR .i64 (A.shl 2 (A.nth [m,g0,g1] 0))),Nat.blt 0 (A.len [m,g0,g1]),Nat.blt 1 (A.len [m,g0,g1]),!A.not (Zas (A.nth [m,g0,g1] 0) 1 3),Nat.blt 0 (A.len [m,g0,g1])] (bB (A.not (Zas (A.nth [m,g0,g1] 2) 1 (A.sub (A.shl 2 (A.nth [m,g0,g1] 0)) 1))) (F (AV.int .i64 2) (none)) (F (AV.int .i64 0) (none))))))
theorem ZAq{A:Ar}{K:KT}{F:FT}{M:MT}{m g0 g1:Int} :ZaA A tab N2 28 K F M (.run 7 (.alt [true,true] (.run 1 (.ty (.run 5 (.fn)))) (.alt [false,true] (.run 1 (.ty (.run 5 (.fn)))) (.alt [false,false] (.run 1 (.tf (.run 5 (.fn)) (.run 6 (.fn)))) (.no))))) (ZC5 m g0 g1) []=Zvd A K F m g0 g1:=by kernel_rfl
def Zx7(m g0 g1:Int)(xs:List Int):AFrame:={ fn:=64,N:=30,env:=[(0,AV.agg (.ints .i64 [m,g0,g1])),(1,AV.list (.ints .i64 xs))],todo:=[.code a64.code],defs:=[],rnd:=none,ret:=false,res:=[ARes.tmp 4] }
def ZC2(m g0 g1:Int)(xs:List Int):List AFrame:=[(Zx7 m g0 g1 xs)]
theorem ZtM(m g0 g1:Int)(xs:List Int):Zax tab 64 [AV.agg (.ints .i64 [m,g0,g1]),AV.list (.ints .i64 xs)]=some (Zx7 m g0 g1 xs):=rfl
def Zxl(A:Ar)(K:KT)(F:FT)(m g0 g1:Int)(xs:List Int):Prop:=rB [Nat.blt 0 (A.len [m,g0,g1])] (qB [decide (List.length [ZaE (A.le (Go.IntKind.wrap .i64 (A.mul 2 (A.nth [m,g0,g1] 0))) (A.int (A.len xs))) 10,ZaE (A.le (A.int (A.len xs)) (Go.IntKind.wrap .i64 (A.mul 2 (Go.IntKind.wrap .i64 (A.add 300 (A.nth [m,g0,g1] 0)))))) 8,Zdr xs (-7) 7]≤1000000),List.all [AV.int .i64 (ZaE (A.le (Go.IntKind.wrap .i64 (A.mul 2 (A.nth [m,g0,g1] 0))) (A.int (A.len xs))) 10),AV.int .i64 (ZaE (A.le (A.int (A.len xs)) (Go.IntKind.wrap .i64 (A.mul 2 (Go.IntKind.wrap .i64 (A.add 300 (A.nth [m,g0,g1] 0)))))) 8),AV.int .i64 (Zdr xs (-7) 7)] fun x=>AV.bx x&&Nat.beq (Zam A x) 1,decide (List.length xs≤1000000),Nat.blt 0 (A.len [m,g0,g1]),Nat.blt 0 (A.len [m,g0,g1]),A.eq (A.rem (A.int (A.len xs)) 2) 0,A.not (A.eq 2 0)] (F (AV.int .i64 (ZaL [ZaE (A.le (Go.IntKind.wrap .i64 (A.mul 2 (A.nth [m,g0,g1] 0))) (A.int (A.len xs))) 10,ZaE (A.le (A.int (A.len xs)) (Go.IntKind.wrap .i64 (A.mul 2 (Go.IntKind.wrap .i64 (A.add 300 (A.nth [m,g0,g1] 0)))))) 8,Zdr xs (-7) 7])) (none)) (rB [decide (List.length [10,ZaE (A.le (A.int (A.len xs)) (Go.IntKind.wrap .i64 (A.mul 2 (Go.IntKind.wrap .i64 (A.add 300 (A.nth [m,g0,g1] 0)))))) 8,Zdr xs (-7) 7]≤1000000),List.all [AV.int .i64 10,AV.int .i64 (ZaE (A.le (A.int (A.len xs)) (Go.IntKind.wrap .i64 (A.mul 2 (Go.IntKind.wrap .i64 (A.add 300 (A.nth [m,g0,g1] 0)))))) 8),AV.int .i64 (Zdr xs (-7) 7)] fun x=>AV.bx x&&Nat.beq (Zam A x) 1,decide (List.length xs≤1000000),Nat.blt 0 (A.len [m,g0,g1]),!A.eq (A.rem (A.int (A.len xs)) 2) 0,A.not (A.eq 2 0)] (F (AV.int .i64 (ZaL [10,ZaE (A.le (A.int (A.len xs)) (Go.IntKind.wrap .i64 (A.mul 2 (Go.IntKind.wrap .i64 (A.add 300 (A.nth [m,g0,g1] 0)))))) 8,Zdr xs (-7) 7])) (none))))
theorem ZAC{A:Ar}{K:KT}{F:FT}{M:MT}{m g0 g1:Int}{xs:List Int} :ZaA A tab N2 64 K F M (.run 6 (.tf (.run 2 (.fn)) (.run 2 (.fn)))) (ZC2 m g0 g1 xs) []=Zxl A K F m g0 g1 xs:=by kernel_rfl
def Zw3(m g0 g1 s b:Int):AFrame:={ fn:=82,N:=35,env:=[(0,AV.agg (.ints .i64 [m,g0,g1])),(1,AV.int .i64 s),(2,AV.int .i64 b)],todo:=[.code a82.code],defs:=[],rnd:=none,ret:=false,res:=[ARes.tmp 6,ARes.cell 7 true 2] }
def ZB7(m g0 g1 s b:Int):List AFrame:=[(Zw3 m g0 g1 s b)]
theorem Zti(m g0 g1 s b:Int):Zax tab 82 [AV.agg (.ints .i64 [m,g0,g1]),AV.int .i64 s,AV.int .i64 b]=some (Zw3 m g0 g1 s b):=rfl
def Zc0(n0:Int)(l1:List Int)(n2:Int)(l3:List Int):List AFrame:=[{ fn:=82,N:=35,env:=[(7,AV.ptr 82008 0 0 0),(8,AV.int .i64 n0),(18,AV.agg (.ints .i64 l1)),(19,AV.int .i64 n2)],todo:=.code (ACode.gh [] Zwa)::ZAE,defs:=[],rnd:=none,ret:=false,res:=[ARes.tmp 6,ARes.cell 7 true 2] }]
def Zce(n0:Int)(l1:List Int)(n2:Int)(l3:List Int):Zab:=[(82008,{ base:=0,blks:=[Blk.row 22 2 (Row.gen [.agg (.ints .i64 l3)])] })]
abbrev ZhD(n0:Int)(l1:List Int)(n2:Int)(l3:List Int):List AFrame×Zab:=(Zc0 n0 l1 n2 l3,Zce n0 l1 n2 l3)
def ZyO(A:Ar)(K:KT)(F:FT)(m g0 g1 s b:Int):Prop:=rB [Nat.ble 3 (A.len [m,g0,g1]),Zag (Zag (A.le 0 (A.nth [m,g0,g1] 0)) (Nat.blt (A.nat (A.nth [m,g0,g1] 0)) 64)) (A.inR .i64 (A.shl b (A.nth [m,g0,g1] 0))),Nat.blt 0 (A.len [m,g0,g1]),Nat.blt 0 (A.len [0,0]),Nat.blt 0 (A.len [m,g0,g1])] (K (ZhD (A.bits Go.BinOp.or .i64 (A.shl b (A.nth [m,g0,g1] 0)) s) (A.sub3 [m,g0,g1] 1 2) (0) ([0,0])))
theorem Zzv{A:Ar}{K:KT}{F:FT}{M:MT}{m g0 g1 s b:Int} :ZaA A tab N2 82 K F M (.run 27 (.hd)) (ZB7 m g0 g1 s b) []=ZyO A K F m g0 g1 s b:=by kernel_rfl
def Zdi(A:Ar)(K:KT)(F:FT)(n0:Int)(l1:List Int)(n2:Int)(l3:List Int):Prop:=bB (A.lt n2 2) (rB [A.inR .i64 (A.add n2 1),Nat.blt (0+A.nat n2) 2,Zag (A.le 0 n2) (A.lt n2 (A.int 2)),A.not (A.eq 2 0),decide (0≤A.bits Go.BinOp.and .i64 n0 (A.nth l1 (A.nat n2))∧A.bits Go.BinOp.and .i64 n0 (A.nth l1 (A.nat n2))≤15),A.inR .u64 (A.bits Go.BinOp.and .i64 n0 (A.nth l1 (A.nat n2))),Zag (Zag (A.le 0 n2) (A.lt n2 (A.int 2))) (Nat.blt (A.nat n2) (A.len l1))] (K (ZhD (n0) (l1) (A.add n2 1) (A.set l3 (0+A.nat n2) (A.rem (↑(ZvA (Int.toNat (A.bits Go.BinOp.and .i64 n0 (A.nth l1 (A.nat n2)))))) 2))))) (rB [Nat.beq (A.len (A.sub3 l3 0 2)) 2,Nat.ble 2 (A.len l3),Zag (A.le 0 1) (Nat.blt (A.nat 1) 64)] (rB [Zag (Zag (Nat.ble 2 (A.len (A.sub3 l3 0 2))) true) true] (F (AV.tup [AV.int .i64 (A.shr n0 1),AV.agg (.ints .i64 (A.sub3 (A.sub3 l3 0 2) 0 2))]) (none))))
theorem ZeG{A:Ar}{K:KT}{F:FT}{M:MT}{n0:Int}{l1:List Int}{n2:Int}{l3:List Int} :ZaA A tab N2 82 K F M (.run 6 (.tf (.run 28 (.hd)) (.run 4 (.fn)))) (Zc0 n0 l1 n2 l3) (Zce n0 l1 n2 l3)=Zdi A K F n0 l1 n2 l3:=by kernel_rfl
def Zww(xs:List Int):AFrame:={ fn:=79,N:=11,env:=[(0,AV.list (.ints .i64 xs))],todo:=[.code a79.code],defs:=[],rnd:=none,ret:=false,res:=[ARes.tmp 2] }
def ZCU(xs:List Int):List AFrame:=[(Zww xs)]
theorem Zuw(xs:List Int):Zax tab 79 [AV.list (.ints .i64 xs)]=some (Zww xs):=rfl
def Zvg(A:Ar)(K:KT)(F:FT)(xs:List Int):Prop:=rB [decide (List.length [ZaE (A.le (A.int (A.len xs)) 300) 8,Zdr xs 0 1]≤1000000),List.all [AV.int .i64 (ZaE (A.le (A.int (A.len xs)) 300) 8),AV.int .i64 (Zdr xs 0 1)] fun x=>AV.bx x&&Nat.beq (Zam A x) 1,decide (List.length xs≤1000000)] (F (AV.int .i64 (ZaL [ZaE (A.le (A.int (A.len xs)) 300) 8,Zdr xs 0 1])) (none))
theorem ZzU{A:Ar}{K:KT}{F:FT}{M:MT}{xs:List Int} :ZaA A tab N2 79 K F M (.run 18 (.fn)) (ZCU xs) []=Zvg A K F xs:=by kernel_rfl
def ZxN(xs:List Int):AFrame:={ fn:=29,N:=8,env:=[(0,AV.list (.ints .i64 xs))],todo:=[.code a29.code],defs:=[],rnd:=none,ret:=false,res:=[ARes.tmp 2] }
def ZCK(xs:List Int):List AFrame:=[(ZxN xs)]
theorem Zvt(xs:List Int):Zax tab 29 [AV.list (.ints .i64 xs)]=some (ZxN xs):=rfl
def ZtO(A:Ar)(K:KT)(F:FT)(xs:List Int):Prop:=bB (A.lt 300 (A.int (A.len xs))) (F (AV.int .i64 8) (none)) (rB [decide (List.length xs≤1000000)] (bB (A.not (ZaD xs)) (F (AV.int .i64 2) (none)) (F (AV.int .i64 0) (none))))
theorem ZzD{A:Ar}{K:KT}{F:FT}{M:MT}{xs:List Int} :ZaA A tab N2 29 K F M (.run 11 (.tf (.run 5 (.fn)) (.run 16 (.tf (.run 9 (.fn)) (.run 10 (.fn)))))) (ZCK xs) []=ZtO A K F xs:=by kernel_rfl
end Go.Proofs.Ytklbmkllepkjcaa
/- Contracts as a list. No condition. -/
namespace Go.Proofs.Ytklbmkllepkjcaa
def Zaw(m p q:Int):Int:=if ¬(1≤m∧m≤3)then 2 else if(1≤p∧p≤2*stN m-1)∧(1≤q∧q≤2*stN m-1)then 0 else 2
theorem Zan{m p q:Int}(h:Zaw m p q=0):(m=1∨m=2∨m=3)∧1≤p∧p≤2*stN m-1∧1≤q∧q≤2*stN m-1∧p≤15∧q≤15:=by
 unfold Zaw at h
 split at h
 ·cases h
 ·rename_i h1
  split at h
  ·rename_i h2
   have h3:=Zha (show 1≤m∧m≤3 by omega)
   exact⟨by omega,by omega,by omega,by omega,by omega,by omega,by omega⟩
  ·cases h
theorem ZiD(m p q:Int):Zah Try.prog 28 [.agg (.ints .i64 [m,p,q])] (.int .i64 (Zaw m p q)) none:=
 start (ZtN m p q) fun C hC=>tgo hC ZgP ZAq (by
  by_cases h1:1≤m∧m≤3
  ·have h3:=Zha h1
   have hm:0≤m∧m≤64:=by omega
   have hw:Zas m 1 3=true:=decide_eq_true h1
   have e:(2:Int)*2^m.toNat=2*stN m:=rfl
   simp only[Zvd,Zqs,List.getD_cons_zero,List.getD_cons_succ,Zu6,e,Zx8]
   cases hp:Zas p 1 (2*stN m-1)with
   |false=>
    have:¬(1≤p∧p≤2*stN m-1):=of_decide_eq_false hp
    simp[Zkd,hw,hp,Zaw,h1,this];omega
   |true=>
    have hp2:1≤p∧p≤2*stN m-1:=of_decide_eq_true hp
    cases hq:Zas q 1 (2*stN m-1)with
    |false=>
     have:¬(1≤q∧q≤2*stN m-1):=of_decide_eq_false hq
     simp[Zkd,hw,hp,hq,Zaw,h1,hp2,this];omega
    |true=>
     have hq2:1≤q∧q≤2*stN m-1:=of_decide_eq_true hq
     simp[Zkd,hw,hp,hq,Zaw,h1,hp2,hq2];omega
  ·have hw:Zas m 1 3=false:=decide_eq_false h1
   simp[Zvd,Zkd,hw,Zaw,h1])
theorem ZjD(m p q:Int):Zah Try.prog 63 [.agg (.ints .i64 [m,p,q])] (.int .i64 (Zaw m p q)) none:=
 start (ZsX m p q) fun C hC=>tgo hC ZgP ZAP (by
  by_cases h1:1≤m∧m≤3
  ·have h3:=Zha h1
   have hw:Zas m 1 3=true:=decide_eq_true h1
   have e:(1:Int)*2^(m+1).toNat=2*stN m:=by
    rw[show (m+1).toNat=m.toNat+1 by omega,Int.pow_succ,Int.one_mul,Int.mul_comm];rfl
   simp only[ZuD,Zqs,List.getD_cons_zero,Zwq,Zu6,e,Zx8,ZrZ]
   have hr:Zdr [p,q] 1 (2*stN m-1)=Zaw m p q:=by
    have hc:Zaw m p q=if(1≤p∧p≤2*stN m-1)∧(1≤q∧q≤2*stN m-1)then 0 else 2:=by
     unfold Zaw;rw[if_neg (fun h=>h h1)]
    rw[hc]
    unfold Zdr
    by_cases h2:(1≤p∧p≤2*stN m-1)∧(1≤q∧q≤2*stN m-1)
    ·rw[if_pos h2,if_pos (by simp[Zas,h2])]
    ·rw[if_neg h2,if_neg (fun h=>h2 (by simpa[Zas]using h))]
   simp[hw,hr];omega
  ·have hw:Zas m 1 3=false:=decide_eq_false h1
   simp[ZuD,hw,Zaw,h1])
def Zpt(m s b:Int):Int:=b*stN m+s
def nxS(m s b:Int):Int:=Zpt m s b/2
def oS(m g s b:Int):Int:=ZA9 (Zpt m s b) g
theorem ZhY(r k:Nat)(hr:r≤15)(hk:k≤15):std.bits .or .i64 (r:Int) (k:Int)=((r ||| k:Nat):Int):=by
 have h1:∀m:Nat,m≤15→(BitVec.ofInt 64 (m:Int)).toNat=m:=fun m hm=>by
  rw[BitVec.ofInt_natCast,BitVec.toNat_ofNat];exact Nat.mod_eq_of_lt (by omega)
 show IntKind.i64.wrap ((BitVec.ofInt 64 (r:Int) ||| BitVec.ofInt 64 (k:Int)).toNat:Int)=_
 rw[BitVec.toNat_or,h1 r hr,h1 k hk]
 have:r ||| k<2^4:=Nat.or_lt_two_pow (by omega) (by omega)
 rw[IntKind.wrap_i64]
 omega
def Zgb(m p q s b:Int):Bool:=decide (Zaw m p q=0∧0≤s∧s<stN m∧(b=0∨b=1))
theorem Znq{m s b:Int}(hm:m=1∨m=2∨m=3)(hs:0≤s∧s<stN m)(hb:b=0∨b=1):0≤Zpt m s b∧Zpt m s b≤15∧0≤nxS m s b∧nxS m s b<stN m∧Zpt m s b<2*stN m:=by
 unfold nxS Zpt
 rcases hm with rfl |rfl |rfl<;>rcases hb with rfl |rfl<;>simp[stN]at hs⊢ <;>omega
theorem ZnP:∀m,m<4→∀B,B<2→∀S,S<8→S<2^m→B*2^m ||| S=B*2^m+S:=by decide
theorem Zwn{m s b:Int}(hm:m=1∨m=2∨m=3)(hs:0≤s∧s<stN m)(hb:b=0∨b=1):std.bits .or .i64 (b*2^m.toNat) s=Zpt m s b:=by
 obtain⟨S,rfl⟩:=Int.eq_ofNat_of_zero_le hs.1
 have hS:=hs.2
 unfold Zpt
 rcases hm with rfl |rfl |rfl<;>rcases hb with rfl |rfl<;>simp[stN]at hS⊢
 all_goals
  first
  |(have:=ZhY 0 S (by omega) (by omega);simpa using this)
  |(have:=ZhY 2 S (by omega) (by omega);have h2:=ZnP 1 (by omega) 1 (by omega) S (by omega) (by omega);simp at h2;rw[h2]at this;simpa using this)
  |(have:=ZhY 4 S (by omega) (by omega);have h2:=ZnP 2 (by omega) 1 (by omega) S (by omega) (by omega);simp at h2;rw[h2]at this;simpa using this)
  |(have:=ZhY 8 S (by omega) (by omega);have h2:=ZnP 3 (by omega) 1 (by omega) S (by omega) (by omega);simp at h2;rw[h2]at this;simpa using this)
theorem Zn1{m:Int}(hm:m=1∨m=2∨m=3):(2:Int)^m.toNat≤8∧2≤(2:Int)^m.toNat:=by
 rcases hm with rfl |rfl |rfl<;>decide
theorem Zjg(m p q s b:Int)(hv:Zaw m p q=0)(hs:0≤s∧s<stN m)(hb:b=0∨b=1):Zah Try.prog 82 [.agg (.ints .i64 [m,p,q]), .int .i64 s, .int .i64 b] (.tup [.int .i64 (nxS m s b), .agg (.ints .i64 [oS m p s b,oS m q s b])]) none:=by
 obtain⟨hm,p1,p2,q1,q2,p3,q3⟩:=Zan hv
 obtain⟨r0,r1,r2,r3,r4⟩:=Znq hm hs hb
 have hw:=Zn1 hm
 have hb2:0≤b*2^m.toNat∧b*2^m.toNat≤8:=by rcases hb with rfl |rfl<;>omega
 have ho:=Zwn hm hs hb
 obtain⟨R,hR⟩:=Int.eq_ofNat_of_zero_le r0
 obtain⟨P,rfl⟩:=Int.eq_ofNat_of_zero_le (show 0≤p by omega)
 obtain⟨Q,rfl⟩:=Int.eq_ofNat_of_zero_le (show 0≤q by omega)
 have b0:∀k:Nat,k≤15→0≤std.bits .and .i64 (R:Int) (k:Int)∧std.bits .and .i64 (R:Int) (k:Int)≤15:=fun k hk=>by
  rw[Zl4 R k (by omega) hk];have:= @Nat.and_le_left R k;omega
 have u0:∀k:Nat,k≤15→std.inR .u64 (std.bits .and .i64 (R:Int) (k:Int))=true:=fun k hk=>by
  have:=b0 k hk
  exact decide_eq_true ⟨by show(0:Int)≤_;omega,by show _≤(18446744073709551615:Int);omega⟩
 have hk:∀k:Nat,k≤15→Int.tmod ((ZvA (Int.toNat (std.bits .and .i64 (R:Int) (k:Int))):Nat):Int) 2=oS m k s b:=fun k hk=>by
  rw[Zl4 R k (by omega) hk,oS,hR];rfl
 refine start (Zti m P Q s b) fun C hC=>tgo hC ZgP Zzv ?_
 simp only[ZyO,Zqs,List.getD_cons_zero,Zu6,ho,hR,ZrZ]
 have two:Ev C (Zc0 R [(P:Int),(Q:Int)] (2:Nat) [oS m P s b,oS m Q s b]) (Zce R [(P:Int),(Q:Int)] (2:Nat) [oS m P s b,oS m Q s b]) (Zb1 82 (.tup [.int .i64 (nxS m s b), .agg (.ints .i64 [oS m P s b,oS m Q s b])]) none):=tgo hC ZgP ZeG (by
  have:nxS m s b=(R:Int).fdiv 2:=by unfold nxS;rw[hR,Int.fdiv_eq_ediv];simp
  simp[Zdi,this])
 have one:Ev C (Zc0 R [(P:Int),(Q:Int)] (1:Nat) [oS m P s b,0]) (Zce R [(P:Int),(Q:Int)] (1:Nat) [oS m P s b,0]) (Zb1 82 (.tup [.int .i64 (nxS m s b), .agg (.ints .i64 [oS m P s b,oS m Q s b])]) none):=tgo hC ZgP ZeG (by
  simp[Zdi,b0 Q (by omega),u0 Q (by omega),hk Q (by omega)]
  simpa using two)
 have zero:Ev C (Zc0 R [(P:Int),(Q:Int)] (0:Nat) [0,0]) (Zce R [(P:Int),(Q:Int)] (0:Nat) [0,0]) (Zb1 82 (.tup [.int .i64 (nxS m s b), .agg (.ints .i64 [oS m P s b,oS m Q s b])]) none):=tgo hC ZgP ZeG (by
  simp[Zdi,b0 P (by omega),u0 P (by omega),hk P (by omega)]
  simpa using one)
 simp
 exact⟨by omega,by simpa using zero⟩
def sfE(m:Int)(so:List Int):Int:=if so.length%2≠0∨(so.length:Int)<2*m then 10 else if 2*(300+m)<(so.length:Int)then 8 else Zdr so (-7) 7
def sfW(m:Int)(so:List Int):Int:=
 ZaL [if so.length%2=0 then ZaE (decide (IntKind.i64.wrap (2*m)≤so.length)) 10 else 10,ZaE (decide ((so.length:Int)≤IntKind.i64.wrap (2*IntKind.i64.wrap (300+m)))) 8,Zdr so (-7) 7]
theorem Zjx(m p q:Int)(so:List Int)(h:so.length≤1000000):Zah Try.prog 64 [.agg (.ints .i64 [m,p,q]), .list (.ints .i64 so)] (.int .i64 (sfW m so)) none:=
 start (ZtM m p q so) fun C hC=>tgo hC ZgP ZAC (by
  have ht:((so.length:Nat):Int).tmod 2=((so.length%2:Nat):Int):=rfl
  simp only[Zxl,Zqs,List.getD_cons_zero,ZA6,Zwq,ZvY,Zwb,Zz6,ht]
  by_cases h1:so.length%2=0
  ·simp[Zkd,h1,sfW,AV.bx,Zam,h]
  ·have h1':¬(so.length:Int)%2=0:=by omega
   simp[Zkd,h1,h1',sfW,AV.bx,Zam,h])
theorem ZsJ{m:Int}{so:List Int}(hm:1≤m∧m≤3):sfW m so=sfE m so:=by
 have w1:IntKind.i64.wrap (2*m)=2*m:=by rw[IntKind.wrap_i64];omega
 have w2:IntKind.i64.wrap (300+m)=300+m:=by rw[IntKind.wrap_i64];omega
 have w3:IntKind.i64.wrap (2*(300+m))=2*(300+m):=by rw[IntKind.wrap_i64];omega
 rw[sfW,sfE,w1,w2,w3]
 by_cases h1:so.length%2=0
 ·by_cases h2:(so.length:Int)<2*m
  ·have:¬(2*m≤so.length):=by omega
   simp[h1,h2,this,ZaL,ZaE]
  ·have h2':2*m≤so.length:=by omega
   by_cases h4:2*(300+m)<so.length
   ·have:¬((so.length:Int)≤2*(300+m)):=by omega
    simp[h1,h2,h2',h4,this,ZaL,ZaE]
   ·have:(so.length:Int)≤2*(300+m):=by omega
    simp only[h1,h2,h2',h4,this,ZaL,ZaE]
    simp
    exact fun e=>e.symm
 ·simp[h1,ZaL]
def bsE(xs:List Int):Int:=if 300<xs.length then 8 else if ZaD xs=true then 0 else 2
theorem ZqF(w:List Int):Zdr w 0 1=if ZaD w=true then 0 else 2:=by
 have:(fun x:Int=>Zas x 0 1)=fun x=>decide (x=0∨x=1):=by
  funext x;unfold Zas;rw[decide_eq_decide];omega
 unfold Zdr ZaD;rw[this]
theorem ZoW(xs:List Int)(h:xs.length≤1000000):Zah Try.prog 29 [.list (.ints .i64 xs)] (.int .i64 (bsE xs)) none:=
 start (Zvt xs) fun C hC=>tgo hC ZgP ZzD (by
  by_cases h1:(300:Int)<xs.length
  ·simp[ZtO,h1,bsE,show 300<xs.length by omega]
  ·cases hb:ZaD xs<;>simp[ZtO,h1,bsE,show ¬300<xs.length by omega,h,hb])
theorem ZoV(xs:List Int)(h:xs.length≤1000000):Zah Try.prog 79 [.list (.ints .i64 xs)] (.int .i64 (bsE xs)) none:=
 start (Zuw xs) fun C hC=>tgo hC ZgP ZzU (by
  rw[bsE]
  by_cases h1:300<xs.length
  ·have:¬((xs.length:Int)≤300):=by omega
   simp[Zvg,h1,h,AV.bx,Zam,ZaL,ZaE,this]
  ·have:(xs.length:Int)≤300:=by omega
   simp[Zvg,h1,h,AV.bx,Zam,ZaL,ZaE,this,ZqF])
def k28i:Ctr:=⟨28,0,fun _ a=>match a with |[.agg (.ints .i64 [m,p,q])]=>some (true, .int .i64 (Zaw m p q),none) |_=>none⟩
theorem Ztp:k28i.OK Try.prog:=fun pa args r fr h=>by
 simp only[k28i]at h
 split at h
 ·cases h
  exact ZiD _ _ _
 ·cases h
def k28g:Ctr:=⟨28,0,fun _ a=>match a with |[.agg (.gen [.int .i64 m, .int .i64 p, .int .i64 q])]=>some (true, .int .i64 (Zaw m p q),none) |_=>none⟩
theorem Zuu:k28g.OK Try.prog:=fun pa args r fr h=>by
 simp only[k28g]at h
 split at h
 ·cases h
  exact Zep (xs:=[]) (r:=.ints .i64 [_,_,_]) (ZiD _ _ _) rfl
 ·cases h
def k63i:Ctr:=⟨63,0,fun _ a=>match a with |[.agg (.ints .i64 [m,p,q])]=>some (true, .int .i64 (Zaw m p q),none) |_=>none⟩
theorem ZuJ:k63i.OK Try.prog:=fun pa args r fr h=>by
 simp only[k63i]at h
 split at h
 ·cases h
  exact ZjD _ _ _
 ·cases h
def k63g:Ctr:=⟨63,0,fun _ a=>match a with |[.agg (.gen [.int .i64 m, .int .i64 p, .int .i64 q])]=>some (true, .int .i64 (Zaw m p q),none) |_=>none⟩
theorem Zul:k63g.OK Try.prog:=fun pa args r fr h=>by
 simp only[k63g]at h
 split at h
 ·cases h
  exact Zep (xs:=[]) (r:=.ints .i64 [_,_,_]) (ZjD _ _ _) rfl
 ·cases h
def k82i:Ctr:=⟨82,0,fun _ a=>match a with |[.agg (.ints .i64 [m,p,q]), .int .i64 s, .int .i64 b]=>some (decide (Zgb m p q s b=true), .tup [.int .i64 (nxS m s b), .agg (.ints .i64 [oS m p s b,oS m q s b])],none) |_=>none⟩
theorem ZtI:k82i.OK Try.prog:=fun pa args r fr h=>by
 simp only[k82i]at h
 split at h
 ·simp only[Option.some.injEq,Prod.mk.injEq,decide_eq_true_eq]at h
  obtain⟨h0,rfl,rfl⟩:=h
  exact Zjg _ _ _ _ _ (of_decide_eq_true h0).1 ⟨(of_decide_eq_true h0).2.1,(of_decide_eq_true h0).2.2.1⟩ (of_decide_eq_true h0).2.2.2
 ·cases h
def k82g:Ctr:=⟨82,0,fun _ a=>match a with |[.agg (.gen [.int .i64 m, .int .i64 p, .int .i64 q]), .int .i64 s, .int .i64 b]=>some (decide (Zgb m p q s b=true), .tup [.int .i64 (nxS m s b), .agg (.ints .i64 [oS m p s b,oS m q s b])],none) |_=>none⟩
theorem ZtT:k82g.OK Try.prog:=fun pa args r fr h=>by
 simp only[k82g]at h
 split at h
 ·simp only[Option.some.injEq,Prod.mk.injEq,decide_eq_true_eq]at h
  obtain⟨h0,rfl,rfl⟩:=h
  exact Zep (xs:=[]) (r:=.ints .i64 [_,_,_]) (Zjg _ _ _ _ _ (of_decide_eq_true h0).1 ⟨(of_decide_eq_true h0).2.1,(of_decide_eq_true h0).2.2.1⟩ (of_decide_eq_true h0).2.2.2) rfl
 ·cases h
def k64i:Ctr:=⟨64,0,fun _ a=>match a with |[.agg (.ints .i64 [m,_,_]), .list (.ints .i64 so)]=>some (decide (so.length≤1000000), .int .i64 (sfW m so),none) |_=>none⟩
theorem Zs7:k64i.OK Try.prog:=fun pa args r fr h=>by
 simp only[k64i]at h
 split at h
 ·simp only[Option.some.injEq,Prod.mk.injEq,decide_eq_true_eq]at h
  obtain⟨h0,rfl,rfl⟩:=h
  exact Zjx _ _ _ _ h0
 ·cases h
def k64g:Ctr:=⟨64,0,fun _ a=>match a with |[.agg (.gen [.int .i64 m, .int .i64 _, .int .i64 _]), .list (.ints .i64 so)]=>some (decide (so.length≤1000000), .int .i64 (sfW m so),none) |_=>none⟩
theorem Ztb:k64g.OK Try.prog:=fun pa args r fr h=>by
 simp only[k64g]at h
 split at h
 ·simp only[Option.some.injEq,Prod.mk.injEq,decide_eq_true_eq]at h
  obtain⟨h0,rfl,rfl⟩:=h
  exact Zep (xs:=[]) (r:=.ints .i64 [_,_,_]) (Zjx _ _ _ _ h0) rfl
 ·cases h
def k29:Ctr:=⟨29,0,fun _ a=>match a with |[.list (.ints .i64 xs)]=>some (decide (xs.length≤1000000), .int .i64 (bsE xs),none) |_=>none⟩
theorem Zv6:k29.OK Try.prog:=fun pa args r fr h=>by
 simp only[k29]at h
 split at h
 ·simp only[Option.some.injEq,Prod.mk.injEq,decide_eq_true_eq]at h
  obtain⟨h0,rfl,rfl⟩:=h
  exact ZoW _ h0
 ·cases h
def k79:Ctr:=⟨79,0,fun _ a=>match a with |[.list (.ints .i64 xs)]=>some (decide (xs.length≤1000000), .int .i64 (bsE xs),none) |_=>none⟩
theorem Zyv:k79.OK Try.prog:=fun pa args r fr h=>by
 simp only[k79]at h
 split at h
 ·simp only[Option.some.injEq,Prod.mk.injEq,decide_eq_true_eq]at h
  obtain⟨h0,rfl,rfl⟩:=h
  exact ZoV _ h0
 ·cases h
def N3:List Ctr:=[k28i,k28g,k63i,k63g,k82i,k82g,k64i,k64g,k29,k79]++N2
theorem ZAT:ZaO Try.prog N3:=⟨Ztp,⟨Zuu,⟨ZuJ,⟨Zul,⟨ZtI,⟨ZtT,⟨Zs7,⟨Ztb,⟨Zv6,⟨Zyv,ZgP⟩⟩⟩⟩⟩⟩⟩⟩⟩⟩
end Go.Proofs.Ytklbmkllepkjcaa
/- Contracts as a list. No condition. -/
namespace Go.Proofs.Ytklbmkllepkjcaa
def ZaB(so:List Int):Int:=((so.length/2:Nat):Int)
theorem Zm0(m p q:Int)(so:List Int)(h:so.length≤1000000):Zah Try.prog 84 [.agg (.gen [.int .i64 m, .int .i64 p, .int .i64 q, .list (.ints .i64 so)])] (.int .i64 (ZaB so)) none:=
 start (ZtX m p q so) fun C hC=>tgo hC Zcf ZAL (by
  have ht:((so.length:Nat):Int).tdiv 2=ZaB so:=rfl
  have hb:0≤ZaB so∧ZaB so≤1000000:=by unfold ZaB;omega
  simp only[ZyZ,ZAo,ZvY,Zwb,ht]
  simp;omega)
theorem ZjP(m p q:Int)(so:List Int)(h:1≤m∧m≤3):Zah Try.prog 86 [.agg (.gen [.int .i64 m, .int .i64 p, .int .i64 q, .list (.ints .i64 so)])] (.int .i64 (stN m)) none:=
 start (Zs0 m p q so) fun C hC=>tgo hC Zcf ZzC (by
  have h2:=Zha h
  unfold stN at h2⊢
  simp[Zye];omega)
def gaI(so:List Int)(t:Nat)(a b:Int):Int:=so.getD (2*t) 0*(1-2*a)+so.getD (2*t+1) 0*(1-2*b)
theorem ZcV{so:List Int}(h:Zdr so (-7) 7=0)(k:Nat): -7≤so.getD k 0∧so.getD k 0≤7:=by
 unfold Zdr at h
 split at h
 ·rename_i hall
  by_cases hk:k<so.length
  ·have:=List.all_eq_true.1 hall _ (Zma (d:=0) hk)
   simpa[Zas]using of_decide_eq_true this
  ·rw[List.getD_eq_getElem?_getD,List.getElem?_eq_none (by omega)];simp
 ·cases h
theorem ZA1{so:List Int}(h:Zdr so (-7) 7=0)(t:Nat){a b:Int}(ha:a=0∨a=1)(hb:b=0∨b=1): -14≤gaI so t a b∧gaI so t a b≤14:=by
 have h1:=ZcV h (2*t)
 have h2:=ZcV h (2*t+1)
 unfold gaI
 rcases ha with rfl |rfl<;>rcases hb with rfl |rfl<;>omega
theorem ZpP(n:Int)(h:n=2∨n=4∨n=8):Zah Try.prog 83 [.list (.ints .i64 [-100000]), .int .i64 n] (.row 0 0) (some ⟨3,1, .ints .i64 (List.replicate n.toNat (-100000))⟩):=by
 rcases h with rfl |rfl |rfl
 ·exact Zaa (n:=100000) (l:=[]) follows Zad trivial (by kernel_rfl)
 ·exact Zaa (n:=100000) (l:=[]) follows Zad trivial (by kernel_rfl)
 ·exact Zaa (n:=100000) (l:=[]) follows Zad trivial (by kernel_rfl)
theorem Zop(n:Int)(h:n=2∨n=4∨n=8):Zah Try.prog 83 [.list (.ints .i64 [100000]), .int .i64 n] (.row 0 0) (some ⟨3,1, .ints .i64 (List.replicate n.toNat 100000)⟩):=by
 rcases h with rfl |rfl |rfl
 ·exact Zaa (n:=100000) (l:=[]) follows Zad trivial (by kernel_rfl)
 ·exact Zaa (n:=100000) (l:=[]) follows Zad trivial (by kernel_rfl)
 ·exact Zaa (n:=100000) (l:=[]) follows Zad trivial (by kernel_rfl)
theorem ZnH(n:Int)(h:n=2∨n=4∨n=8):Zah Try.prog 122 [.list (.flts .f32 [3351465984]), .int .i64 n] (.row 0 0) (some ⟨118,1, .flts .f32 (List.replicate n.toNat 3351465984)⟩):=by
 rcases h with rfl |rfl |rfl
 ·exact Zaa (n:=100000) (l:=[]) follows Zad trivial (by kernel_rfl)
 ·exact Zaa (n:=100000) (l:=[]) follows Zad trivial (by kernel_rfl)
 ·exact Zaa (n:=100000) (l:=[]) follows Zad trivial (by kernel_rfl)
def Zt5(n:Int):Bool:=decide (n=2∨n=4∨n=8)
def k84:Ctr:=⟨84,0,fun _ a=>match a with |[.agg (.gen [.int .i64 _, .int .i64 _, .int .i64 _, .list (.ints .i64 so)])]=>some (decide (so.length≤1000000), .int .i64 (ZaB so),none) |_=>none⟩
theorem Zx6:k84.OK Try.prog:=fun pa args r fr h=>by
 simp only[k84]at h
 split at h
 ·simp only[Option.some.injEq,Prod.mk.injEq,decide_eq_true_eq]at h
  obtain⟨h0,rfl,rfl⟩:=h
  exact Zm0 _ _ _ _ h0
 ·cases h
def k86:Ctr:=⟨86,0,fun _ a=>match a with |[.agg (.gen [.int .i64 m, .int .i64 _, .int .i64 _, .list (.ints .i64 _)])]=>some (decide (ZkA m=true), .int .i64 (stN m),none) |_=>none⟩
theorem ZwX:k86.OK Try.prog:=fun pa args r fr h=>by
 simp only[k86]at h
 split at h
 ·simp only[Option.some.injEq,Prod.mk.injEq,decide_eq_true_eq]at h
  obtain⟨h0,rfl,rfl⟩:=h
  exact ZjP _ _ _ _ (of_decide_eq_true h0)
 ·cases h
def k83:Ctr:=⟨83,0,fun _ a=>match a with |[.list (.ints .i64 [-100000]), .int .i64 n]=>some (decide (Zt5 n=true), .row 0 0,some ⟨3,1, .ints .i64 (List.replicate n.toNat (-100000))⟩) |_=>none⟩
theorem Zym:k83.OK Try.prog:=fun pa args r fr h=>by
 simp only[k83]at h
 split at h
 ·simp only[Option.some.injEq,Prod.mk.injEq,decide_eq_true_eq]at h
  obtain⟨h0,rfl,rfl⟩:=h
  exact ZpP _ (of_decide_eq_true h0)
 ·cases h
def k83f:Ctr:=⟨83,0,fun _ a=>match a with |[.list (.ints .i64 [100000]), .int .i64 n]=>some (decide (Zt5 n=true), .row 0 0,some ⟨3,1, .ints .i64 (List.replicate n.toNat 100000)⟩) |_=>none⟩
theorem Zub:k83f.OK Try.prog:=fun pa args r fr h=>by
 simp only[k83f]at h
 split at h
 ·simp only[Option.some.injEq,Prod.mk.injEq,decide_eq_true_eq]at h
  obtain⟨h0,rfl,rfl⟩:=h
  exact Zop _ (of_decide_eq_true h0)
 ·cases h
def k122:Ctr:=⟨122,0,fun _ a=>match a with |[.list (.flts .f32 [3351465984]), .int .i64 n]=>some (decide (Zt5 n=true), .row 0 0,some ⟨118,1, .flts .f32 (List.replicate n.toNat 3351465984)⟩) |_=>none⟩
theorem Zt3:k122.OK Try.prog:=fun pa args r fr h=>by
 simp only[k122]at h
 split at h
 ·simp only[Option.some.injEq,Prod.mk.injEq,decide_eq_true_eq]at h
  obtain⟨h0,rfl,rfl⟩:=h
  exact ZnH _ (of_decide_eq_true h0)
 ·cases h
def N4:List Ctr:=[k84,k86,k83,k83f,k122]++N3
theorem Zwt:ZaO Try.prog N4:=⟨Zx6,⟨ZwX,⟨Zym,⟨Zub,⟨Zt3,ZAT⟩⟩⟩⟩⟩
end Go.Proofs.Ytklbmkllepkjcaa
/- Paths of functions, printed by the explorer (Gx). No condition. -/
namespace Go.Proofs.Ytklbmkllepkjcaa
set_option maxRecDepth 100000
set_option linter.unusedVariables false
def Zsy(m g0 g1:Int)(xs:List Int):AFrame:={ fn:=108,N:=9,env:=[(0,AV.agg (Row.gen [.int .i64 m, .int .i64 g0, .int .i64 g1, .list (.ints .i64 xs)]))],todo:=[.code a108.code],defs:=[],rnd:=none,ret:=false,res:=[ARes.tmp 2] }
def ZAD(m g0 g1:Int)(xs:List Int):List AFrame:=[(Zsy m g0 g1 xs)]
theorem ZqM(m g0 g1:Int)(xs:List Int):Zax tab 108 [AV.agg (Row.gen [.int .i64 m, .int .i64 g0, .int .i64 g1, .list (.ints .i64 xs)])]=some (Zsy m g0 g1 xs):=rfl
def ZsB(A:Ar)(K:KT)(F:FT)(m g0 g1:Int)(xs:List Int):Prop:=rB [A.inR .i64 (A.sub (ZaB xs) m),decide (List.length xs≤1000000)] (F (AV.int .i64 (A.sub (ZaB xs) m)) (none))
theorem ZwI{A:Ar}{K:KT}{F:FT}{M:MT}{m g0 g1:Int}{xs:List Int} :ZaA A tab N4 108 K F M (.run 9 (.fn)) (ZAD m g0 g1 xs) []=ZsB A K F m g0 g1 xs:=by kernel_rfl
end Go.Proofs.Ytklbmkllepkjcaa
/- Contracts as a list. No condition. -/
namespace Go.Proofs.Ytklbmkllepkjcaa
theorem ZmO(m p q:Int)(so:List Int)(h:so.length≤1000000∧1≤m∧m≤3):Zah Try.prog 108 [.agg (.gen [.int .i64 m, .int .i64 p, .int .i64 q, .list (.ints .i64 so)])] (.int .i64 (ZaB so-m)) none:=
 start (ZqM m p q so) fun C hC=>tgo hC Zwt ZwI (by
  have hb:0≤ZaB so∧ZaB so≤1000000:=by unfold ZaB;omega
  simp[ZsB];omega)
def cdE(m p q:Int)(so:List Int):Int:=if Zaw m p q≠0 then Zaw m p q else sfE m so
theorem ZcC(m g s b:Int):oS m g s b=0∨oS m g s b=1:=by
 unfold oS ZA9
 rcases Nat.mod_two_eq_zero_or_one (ZvA ((Zpt m s b).toNat &&& g.toNat))with h |h<;>rw[h]<;>simp
def gnI(m p q:Int)(so:List Int)(t:Nat)(s b:Int):Int:=gaI so t (oS m p s b) (oS m q s b)
theorem ZeW{m p q:Int}{so:List Int}(h:Zdr so (-7) 7=0)(t:Nat)(s b:Int): -14≤gnI m p q so t s b∧gnI m p q so t s b≤14:=ZA1 h t (ZcC _ _ _ _) (ZcC _ _ _ _)
section
variable (m p q:Int)(so:List Int)
def stS:Nat:=(stN m).toNat
def Zac:Nat:=so.length/2
def ZbF:Nat:=so.length/2-m.toNat
def upR(D:List Int)(t:Nat)(s:Nat)(b:Int)(cur:Int):Int:=if -1000000<D.getD (nxS m s b).toNat 0 then max cur (D.getD (nxS m s b).toNat 0+gnI m p q so t s b)else cur
def Zsh(D:List Int)(t s:Nat):Int:=if t<ZbF m so then upR m p q so D t s 1 (upR m p q so D t s 0 (-2000000))else upR m p q so D t s 0 (-2000000)
def dpR:Nat→List Int
 |0=>(List.range (stS m)).map fun s=>if s=0 then 0 else -2000000
 |n+1=>(List.range (stS m)).map fun s=>Zsh m p q so (dpR n) (Zac so-1-n) s
def tbR:Nat→Nat→Int→List Int
 |0,_,_=>[]
 |j+1,t,s=>if(dpR m p q so (Zac so-t-1)).getD (nxS m s 0).toNat 0+gnI m p q so t s 0=(dpR m p q so (Zac so-t)).getD s.toNat 0 then 0::tbR j (t+1) (nxS m s 0)else 1::tbR j (t+1) (nxS m s 1)
end
structure OkC (m p q:Int) (so:List Int):Prop where
 cv:Zaw m p q=0
 sf:sfE m so=0
theorem OkC.soft{m p q:Int}{so:List Int}(h:OkC m p q so):Zdr so (-7) 7=0∧so.length%2=0∧2*m≤so.length∧so.length≤606:=by
 have hm:=(Zan h.cv).1
 have:=h.sf
 unfold sfE at this
 split at this
 ·cases this
 ·rename_i h1
  split at this
  ·cases this
  ·rename_i h2
   exact⟨this,by omega,by omega,by omega⟩
theorem Za5{m:Int}(h:m=1∨m=2∨m=3):(stS m=2∨stS m=4∨stS m=8)∧(stS m:Int)=stN m:=by
 have h2:=Zha (m:=m) (by omega)
 unfold stS;omega
theorem Zbd{m p q:Int}{so:List Int}(h:OkC m p q so){s:Nat}(hs:s<stS m){b:Int}(hb:b=0∨b=1):Zgb m p q s b=true∧0≤nxS m s b∧(nxS m s b).toNat<stS m:=by
 have hm:=(Zan h.cv).1
 have h2:=Za5 hm
 obtain⟨r0,r1,r2,r3,r4⟩:=Znq (m:=m) (s:=s) (b:=b) hm (by omega) hb
 exact⟨decide_eq_true ⟨h.cv,by omega,by omega,hb⟩,r2,by omega⟩
section
variable (m p q:Int)(so:List Int)
theorem ZoP(n:Nat):(dpR m p q so n).length=stS m:=by cases n<;>simp[dpR]
theorem Ziw{s:Nat}(h:s<stS m):(dpR m p q so 0).getD s 0=if s=0 then 0 else -2000000:=by
 rw[dpR,List.getD_eq_getElem?_getD,List.getElem?_map,List.getElem?_range h];rfl
theorem Zd3{n s:Nat}(h:s<stS m):(dpR m p q so (n+1)).getD s 0=Zsh m p q so (dpR m p q so n) (Zac so-1-n) s:=by
 rw[dpR,List.getD_eq_getElem?_getD,List.getElem?_map,List.getElem?_range h];rfl
end
theorem ZwT{m p q:Int}{so D:List Int}{U:Int}(hg:Zdr so (-7) 7=0)(t s:Nat)(b cur:Int)(hD:∀j, -2000000≤D.getD j 0∧D.getD j 0≤U)(hc: -2000000≤cur∧cur≤U+14): -2000000≤upR m p q so D t s b cur∧upR m p q so D t s b cur≤U+14:=by
 have h1:=ZeW (m:=m) (p:=p) (q:=q) hg t s b
 have h2:=hD (nxS m s b).toNat
 unfold upR
 split
 ·omega
 ·exact hc
theorem ZwZ{m p q:Int}{so:List Int}(hg:Zdr so (-7) 7=0):∀n j:Nat, -2000000≤(dpR m p q so n).getD j 0∧(dpR m p q so n).getD j 0≤14*n
 |0,j=>by
  by_cases h:j<stS m
  ·rw[Ziw m p q so h];split<;>simp
  ·rw[List.getD_eq_getElem?_getD,List.getElem?_eq_none (by rw[ZoP];omega)];simp
 |n+1,j=>by
  have ih:=ZwZ (m:=m) (p:=p) (q:=q) hg n
  by_cases h:j<stS m
  ·rw[Zd3 m p q so h,Zsh]
   have h0:=ZwT (m:=m) (p:=p) (q:=q) hg (Zac so-1-n) j 0 (-2000000) ih (by omega)
   split
   ·have:=ZwT (m:=m) (p:=p) (q:=q) hg (Zac so-1-n) j 1 _ ih h0
    omega
   ·omega
  ·rw[List.getD_eq_getElem?_getD,List.getElem?_eq_none (by rw[ZoP];omega)];simp;omega
@[simp] theorem ZBR (l:List Nat):std.lenF l=l.length:=rfl
@[simp] theorem ZB6 (l:List Nat) (j:Nat):std.nthF l j=l.getD j 0:=rfl
@[simp] theorem ZBN (l:List Nat) (j x:Nat):std.setF l j x=l.set j x:=rfl
@[simp] theorem ZBE (n x:Nat):std.repF n x=List.replicate n x:=rfl
@[simp] theorem ZBa (a b:List Nat):std.appF a b=a++b:=rfl
section
variable {C:Ctx}(hC:C.P=Try.prog)(m p q:Int)(so:List Int)(h:OkC m p q so)
include hC h
def v0(s:Nat):Int:=if s=0 then 0 else -2000000
end
def bvI(m p q:Int)(so:List Int):Int:=(dpR m p q so (Zac so)).getD 0 0
def blI(m p q:Int)(so:List Int):List Int:=tbR m p q so (ZbF m so) 0 0
def okI(m p q:Int)(so:List Int):Bool:=decide (Zaw m p q=0)&&decide (sfE m so=0)
theorem okI_iff{m p q:Int}{so:List Int} :okI m p q so=true↔OkC m p q so:=by
 unfold okI;simp only[Bool.and_eq_true,decide_eq_true_eq];exact⟨fun h=>⟨h.1,h.2⟩,fun h=>⟨h.1,h.2⟩⟩
def Zcs(m:Int)(so:List Int):Int:=ZaB so-m
def ZqX(m:Int)(so:List Int):Bool:=decide (so.length≤1000000∧1≤m∧m≤3)
def k108:Ctr:=⟨108,0,fun _ a=>match a with |[.agg (.gen [.int .i64 m, .int .i64 _, .int .i64 _, .list (.ints .i64 so)])]=>some (decide (ZqX m so=true), .int .i64 (Zcs m so),none) |_=>none⟩
theorem Zus:k108.OK Try.prog:=fun pa args r fr h=>by
 simp only[k108]at h
 split at h
 ·simp only[Option.some.injEq,Prod.mk.injEq,decide_eq_true_eq]at h
  obtain⟨h0,rfl,rfl⟩:=h
  exact ZmO _ _ _ _ (of_decide_eq_true h0)
 ·cases h
def N5:List Ctr:=[k108]++N4
theorem ZcX:ZaO Try.prog N5:=⟨Zus,Zwt⟩
end Go.Proofs.Ytklbmkllepkjcaa
