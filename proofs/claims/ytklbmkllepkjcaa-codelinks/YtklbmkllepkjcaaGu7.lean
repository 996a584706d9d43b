/- Paths of functions, printed by the explorer (Gx). No condition. -/
import Derived.Test.YtklbmkllepkjcaaHb
import Derived.KernelRfl
namespace Go.Proofs.Ytklbmkllepkjcaa
set_option maxRecDepth 100000
set_option linter.unusedVariables false
def ZMm(m p q h D:Int)(l:List Int):AFrame:=vF 56 80 [(0,AV.agg (Row.gen [.int .i64 m, .int .i64 p, .int .i64 q, .int .i64 h, .int .i64 D])),vL 1 l] [.code a56.code] [.tmp 4,.tmp 5,.tmp 6]
def ZT7(m p q h D:Int)(l:List Int):List AFrame:=[(ZMm m p q h D l)]
theorem ZHA(m p q h D:Int)(l:List Int):Zal tab 56 [AV.agg (Row.gen [.int .i64 m, .int .i64 p, .int .i64 q, .int .i64 h, .int .i64 D]),AV.list (.ints .i64 l)]=some (ZMm m p q h D l):=rfl
def Zmt(m p q h D:Int)(l0:List Int)(n1:Int)(l2:List Int):List AFrame:=[vF 56 80 [vP 2 56003,vR 7 56023,vR 9 56041,vR 10 56075,vI 11 n1] (vC ZLq ZQ9) [.tmp 4,.tmp 5,.tmp 6]]
def Zik(m p q h D:Int)(l0:List Int)(n1:Int)(l2:List Int):Zaa:=[(56003,{ base:=0,blks:=[Blk.row 78 5 (Row.gen [AV.agg (Row.gen [AV.int .i64 m,AV.int .i64 p,AV.int .i64 q,AV.int .i64 h,AV.int .i64 D])])] }),vK 56023 l0,vK 56041 l2,(56075,{ base:=0,blks:=[Blk.row 3 1 (.ints .i64 [])] })]
abbrev Zoa(m p q h D:Int)(l0:List Int)(n1:Int)(l2:List Int):List AFrame×Zaa:=(Zmt m p q h D l0 n1 l2,Zik m p q h D l0 n1 l2)
def ZkF(m p q h D:Int)(l3:List Int)(n4 n5:Int)(l6:List Int):List AFrame:=[vF 56 80 [vP 2 56003,vR 10 56075,vR 12 56045,vI 13 n4,vI 14 n5] (vC ZMi ZPo) [.tmp 4,.tmp 5,.tmp 6]]
def ZiP(m p q h D:Int)(l3:List Int)(n4 n5:Int)(l6:List Int):Zaa:=[(56003,{ base:=0,blks:=[Blk.row 78 5 (Row.gen [AV.agg (Row.gen [AV.int .i64 m,AV.int .i64 p,AV.int .i64 q,AV.int .i64 h,AV.int .i64 D])])] }),vK 56045 l3,vK 56075 l6]
abbrev ZmU(m p q h D:Int)(l3:List Int)(n4 n5:Int)(l6:List Int):List AFrame×Zaa:=(ZkF m p q h D l3 n4 n5 l6,ZiP m p q h D l3 n4 n5 l6)
def ZOe(A:Ar)(K:KT)(F:FT)(m p q h D:Int)(l:List Int):Prop:=rB [decide (okI m p q l=true)] (K (Zoa m p q h D (blI m p q l) 0 []))
theorem ZSM{A:Ar}{K:KT}{F:FT}{M:MT}{m p q h D:Int}{l:List Int} :Zah A tab Ko 56 K F M (.run 34 (.hd)) (ZT7 m p q h D l) []=ZOe A K F m p q h D l:=by kernel_rfl
def Zjv(A:Ar)(K:KT)(F:FT)(m p q h D:Int)(l0:List Int)(n1:Int)(l2:List Int):Prop:=let u1:=A.add n1 4;let u2:=A.nat u1-A.nat n1;let u0:=A.sub3 l0 (A.nat n1) u2;let u3:=A.len l0;rB [A.inR .i64 u1] (bB (A.le u1 (A.int u3)) (rB [A.inR .i64 u1,Nat.ble (A.len l2+A.len [nbI u0 0]) 4294967296,List.all [AV.int .i64 (nbI u0 0)] fun x=>AV.bx x&&Nat.beq (Zag A x) 1,Zad (Zad (Nat.ble (A.nat n1+u2) u3) true) (decide (ZbP u0=true∧List.length u0≤20)),Zad (Zad (A.le 0 n1) (A.le 0 u1)) (Zad (Zad (Nat.ble (A.nat n1) (A.nat u1)) (Nat.ble (A.nat u1) u3)) true),A.inR .i64 u1] (K (Zoa m p q h D l0 u1 (A.app l2 [nbI u0 0])))) (rB [decide (rcB l2 D=true)] (K (ZmU m p q h D (tS l2 (Nat.div (List.length l2) (Int.toNat D))) 0 0 []))))
theorem ZoF{A:Ar}{K:KT}{F:FT}{M:MT}{m p q h D:Int}{l0:List Int}{n1:Int}{l2:List Int} :Zah A tab Ko 56 K F M (.run 10 (.tf (.run 23 (.hd)) (.run 21 (.hd)))) (Zmt m p q h D l0 n1 l2) (Zik m p q h D l0 n1 l2)=Zjv A K F m p q h D l0 n1 l2:=by kernel_rfl
def ZfI(A:Ar)(K:KT)(F:FT)(m p q h D:Int)(l3:List Int)(n4 n5:Int)(l6:List Int):Prop:=let u3:=A.mul n5 15;let u5:=A.add n5 1;let u1:=A.mul u5 15;let u7:=A.nat u1-A.nat u3;let u0:=A.sub3 l3 (A.nat u3) u7;let u2:=A.sub 15 (A.mul 2 h);let u4:=A.sub3 (rdV h u0) 0 (A.nat u2-0);let u6:=A.add n4 (rdN h u0);bB (A.lt n5 D) (rB [Zad (Zad (Nat.ble (A.nat u3+u7) (A.len l3)) true) (decide (hfB h=true∧okw u0=true)),Zad (Zad (A.le 0 u3) (A.le 0 u1)) (Zad (Zad (Nat.ble (A.nat u3) (A.nat u1)) (Nat.ble (A.nat u1) (A.len l3))) true),A.inR .i64 u1,A.inR .i64 u5,A.inR .i64 u3] (bB (A.not (Option.isSome (rdO h u0))) (F (AV.tup [AV.nils,AV.int .i64 0,AV.bool false]) none) (rB [A.inR .i64 u5,A.inR .i64 u6,Nat.ble (A.len l6+A.len u4) 4294967296,Zad (A.le 0 u2) (Zad (Zad (Nat.ble 0 (A.nat u2)) (Nat.ble (A.nat u2) (A.len (rdV h u0)))) true),A.inR .i64 u2,A.inR .i64 (A.mul 2 h)] (K (ZmU m p q h D l3 u6 u5 (A.app l6 u4)))))) (F (AV.tup [AV.row 0 0,AV.int .i64 n4,AV.bool true]) (some { e:=3,sz:=1,r:=.ints .i64 l6 }))
theorem ZoC{A:Ar}{K:KT}{F:FT}{M:MT}{m p q h D:Int}{l3:List Int}{n4 n5:Int}{l6:List Int} :Zah A tab Ko 56 K F M (.run 9 (.tf (.run 12 (.tf (.run 7 (.fn)) (.run 24 (.hd)))) (.run 10 (.fn)))) (ZkF m p q h D l3 n4 n5 l6) (ZiP m p q h D l3 n4 n5 l6)=ZfI A K F m p q h D l3 n4 n5 l6:=by kernel_rfl
def ZLO(m p q h D:Int)(l:List Int):AFrame:=vF 49 108 [(0,AV.agg (Row.gen [.int .i64 m, .int .i64 p, .int .i64 q, .int .i64 h, .int .i64 D])),vL 1 l] [.code a49.code] [ARes.cell 4 false 1,ARes.cell 5 false 1,ARes.cell 6 false 1]
def ZV8(m p q h D:Int)(l:List Int):List AFrame:=[(ZLO m p q h D l)]
theorem ZHF(m p q h D:Int)(l:List Int):Zal tab 49 [AV.agg (Row.gen [.int .i64 m, .int .i64 p, .int .i64 q, .int .i64 h, .int .i64 D]),AV.list (.ints .i64 l)]=some (ZLO m p q h D l):=rfl
def v5Q:List AOp:=[oN 75 (.load false 1 (.t 12)),oN 76 (.load false 1 (.t 12)),oN 77 (.len (.t 76)),oN 78 (.faddr 4 (.t 2)),oN 79 (.load false 1 (.t 78)),oN 80 (.bin Go.BinOp.quo (.t 77) (.t 79)),oN 81 (.ncall true 49082 97 [.t 75,.t 80]),oN 82 (.icall 96 [.t 81,cI 15])]
def ZfJ(m p q h D:Int)(l0 l1 l2 l3 l4:List Int)(n5:Int)(l6:List Int):List AFrame:=[vF 119 31 [(0,AV.yld 49902 1),vP 1 96003,vP 2 96004,vI 4 n5] (vC ZtN Zuu) [],{ fn:=49,N:=108,env:=[vP 2 49003,vP 4 49005,vP 5 49006,vP 6 49007,vL 10 l0,vP 12 49013,vL 57 l1,(58,AV.fn 119 [AV.ptr 96003 0 0 0,AV.ptr 96004 0 0 0])],todo:=[.inRF 49902 1,.inBlock 0, .code (.seq (.reg none [oN 17 (.alloc 49018 25 AV.nils)]) (.gh [.ownc 17 49103 3 1 (.ints .i64 [])] (.seq (.reg none [oN 18 (.alloc 49019 3 (AV.int .i64 0)),{ d:=none,g:=none,k:=OpK.store 1 (.t 18) (cI 0) }]) (.seq (.seq (.reg (some []) v5Q) (.gh [.keep [2,4,5,6,17,18,82]] (.block 4 (.rf 49901 (.t 82) [83] (.reg none [mV 19 83]) (.block 5 (.seq (.reg (some [(0,10),(1,10),(2,10),(3,10),(4,10),(5,10),(6,10),(7,10),(8,10),(8,11),(9,10),(9,11)]) [mV 85 19,oN 86 (.s2a 15 (.t 85)),oN 87 (.load true 15 (.t 86)),oN 88 (.faddr 3 (.t 2)),oN 89 (.load false 1 (.t 88)),oN 90 (.ncall true 0 90 [.t 87,.t 89]),mV 84 90,oN 91 (.ext 0 (.t 84)),oN 92 (.ext 1 (.t 84)),oN 93 (.ext 2 (.t 84)),oN 20 (.alloc 49021 107 (AV.agg (.ints .i64 [0,0,0,0,0,0,0,0,0,0,0,0,0,0,0]))),{ d:=none,g:=none,k:=OpK.store 15 (.t 20) (.t 91) },mV 21 92,mV 22 93]) (.gh [.keep [2,4,5,6,17,18,20,21,22]] (.seq (.seq (.reg none [mV 94 22,oN 95 (.not (.t 94))]) (.cond (.t 95) (.seq (.reg none [{ d:=none,g:=none,k:=OpK.store 1 (.t 4) (.c AV.nils) },{ d:=none,g:=none,k:=OpK.store 1 (.t 5) (cI 0) },{ d:=none,g:=none,k:=OpK.store 1 (.t 6) (cI 27) }]) ACode.ret) ACode.skip)) (.seq (.reg (some []) [oN 96 (.load false 1 (.t 17)),oN 97 (.faddr 3 (.t 2)),oN 98 (.load false 1 (.t 97)),oN 99 (.bin Go.BinOp.mul (cI 2) (.t 98)),oN 100 (.bin Go.BinOp.sub (cI 15) (.t 99)),oN 101 (.asl 15 (.t 20) none (some (.t 100))),oN 102 (.append 49103 3 1 (.t 96) (.t 101)),{ d:=none,g:=none,k:=OpK.store 1 (.t 17) (.t 102) }]) (.gh [.keep [2,4,5,6,17,18,21]] (.reg none [oN 103 (.load false 1 (.t 18)),mV 104 21,oN 105 (.bin Go.BinOp.add (.t 103) (.t 104)),{ d:=none,g:=none,k:=OpK.store 1 (.t 18) (.t 105) }]))))))))))) (.seq (.reg (some [(1,2)]) [oN 106 (.load false 1 (.t 17)),oN 107 (.load false 1 (.t 18)),{ d:=none,g:=none,k:=OpK.store 1 (.t 4) (.t 106) },{ d:=none,g:=none,k:=OpK.store 1 (.t 5) (.t 107) },{ d:=none,g:=none,k:=OpK.store 1 (.t 6) (cI 0) }]) ACode.ret)))))],defs:=[(49902,0)],rnd:=none,ret:=false,res:=[ARes.cell 4 false 1,ARes.cell 5 false 1,ARes.cell 6 false 1] }]
def v7Q:ACode:=.seq (.reg none [oN 14 (.mov (cI 0))]) (.seq (.seq (.reg none [mV 60 13,oN 61 (.len (.t 60)),oN 62 (.mov (cI 0))]) (.block 2 (.loop ZzL))) ZzR)
def ZdZ(m p q h D:Int)(l0 l1 l2 l3 l4:List Int)(n5:Int)(l6:List Int):Zaa:=[(49003,{ base:=0,blks:=[Blk.row 78 5 (Row.gen [AV.agg (Row.gen [AV.int .i64 m,AV.int .i64 p,AV.int .i64 q,AV.int .i64 h,AV.int .i64 D])])] }),(49005,{ base:=0,blks:=[Blk.row 25 1 (Row.gen [AV.nils])] }),vG 49006 (.int .i64 0),(49007,{ base:=0,blks:=[Blk.row 27 1 (Row.gen [.int .i64 0])] }),(49013,{ base:=0,blks:=[Blk.row 25 1 (Row.gen [.row 49075 0])] }),vK 49075 l6,(49902,{ base:=0,blks:=[Blk.dfr,Blk.lp { st:=RSt.ready,fn:=49,N:=108,env:=[vP 2 49003,vP 4 49005,vP 5 49006,vP 6 49007,vL 10 l2,vP 12 49013,vL 57 l3,(58,AV.fn 119 [AV.ptr 96003 0 0 0,AV.ptr 96004 0 0 0])],params:=[59],asg:=ACode.reg none [mV 13 59],body:=ACode.block 1 v7Q }] }),(96003,{ base:=0,blks:=[Blk.row 25 1 (Row.gen [.list (.ints .i64 l4)])] }),vG 96004 (.int .i64 4)]
abbrev Zl2(m p q h D:Int)(l0 l1 l2 l3 l4:List Int)(n5:Int)(l6:List Int):List AFrame×Zaa:=(ZfJ m p q h D l0 l1 l2 l3 l4 n5 l6,ZdZ m p q h D l0 l1 l2 l3 l4 n5 l6)
def Zlp(m p q h D:Int)(l0 l1 l2 l3 l4:List Int)(n5:Int)(l6 l7:List Int)(n8 n9 n10 n11 n12 n13:Int)(l14:List Int)(n15 n16:Int):List AFrame:=[{ fn:=49,N:=108,env:=[vP 2 49003,vP 4 49005,vP 5 49006,vP 6 49007,vP 12 49013,vI 14 n15,vL 60 l7,vI 61 n8,vI 62 n16],todo:=.code (.gh [] ZNC)::ZQw,defs:=[],rnd:=some (49902,1),ret:=false,res:=[] },vF 119 31 [(0,AV.yld 49902 1),vP 1 96003,vP 2 96004,vI 4 n5,vI 5 n9,(19,AV.yld 49902 1),vL 20 l4,vI 21 n5,vI 22 n5,vI 23 n10,vI 24 n11,vI 25 n5,vI 26 n12,vI 27 n13,vL 28 l14] (.inReg [oN 29 (.icallv (.t 19) [.t 28]),oN 30 (.not (.t 29))]::.code (.gh [.keep [0,1,2,4,30]] (.cond (.t 30) ACode.ret ACode.skip))::AItem.inBlock 1::.code (.reg none [mV 10 4,oN 11 (.load false 1 (.t 2)),oN 12 (.bin Go.BinOp.add (.t 10) (.t 11)),mV 4 12])::Zuu) [],{ fn:=49,N:=108,env:=[vP 2 49003,vP 4 49005,vP 5 49006,vP 6 49007,vL 10 l0,vP 12 49013,vL 57 l1,(58,AV.fn 119 [AV.ptr 96003 0 0 0,AV.ptr 96004 0 0 0])],todo:=[.inRF 49902 1,.inBlock 0, .code (.seq (.reg none [oN 17 (.alloc 49018 25 AV.nils)]) (.gh [.ownc 17 49103 3 1 (.ints .i64 [])] (.seq (.reg none [oN 18 (.alloc 49019 3 (AV.int .i64 0)),{ d:=none,g:=none,k:=OpK.store 1 (.t 18) (cI 0) }]) (.seq (.seq (.reg (some []) v5Q) (.gh [.keep [2,4,5,6,17,18,82]] (.block 4 (.rf 49901 (.t 82) [83] (.reg none [mV 19 83]) (.block 5 (.seq (.reg (some [(0,10),(1,10),(2,10),(3,10),(4,10),(5,10),(6,10),(7,10),(8,10),(8,11),(9,10),(9,11)]) [mV 85 19,oN 86 (.s2a 15 (.t 85)),oN 87 (.load true 15 (.t 86)),oN 88 (.faddr 3 (.t 2)),oN 89 (.load false 1 (.t 88)),oN 90 (.ncall true 0 90 [.t 87,.t 89]),mV 84 90,oN 91 (.ext 0 (.t 84)),oN 92 (.ext 1 (.t 84)),oN 93 (.ext 2 (.t 84)),oN 20 (.alloc 49021 107 (AV.agg (.ints .i64 [0,0,0,0,0,0,0,0,0,0,0,0,0,0,0]))),{ d:=none,g:=none,k:=OpK.store 15 (.t 20) (.t 91) },mV 21 92,mV 22 93]) (.gh [.keep [2,4,5,6,17,18,20,21,22]] (.seq (.seq (.reg none [mV 94 22,oN 95 (.not (.t 94))]) (.cond (.t 95) (.seq (.reg none [{ d:=none,g:=none,k:=OpK.store 1 (.t 4) (.c AV.nils) },{ d:=none,g:=none,k:=OpK.store 1 (.t 5) (cI 0) },{ d:=none,g:=none,k:=OpK.store 1 (.t 6) (cI 27) }]) ACode.ret) ACode.skip)) (.seq (.reg (some []) [oN 96 (.load false 1 (.t 17)),oN 97 (.faddr 3 (.t 2)),oN 98 (.load false 1 (.t 97)),oN 99 (.bin Go.BinOp.mul (cI 2) (.t 98)),oN 100 (.bin Go.BinOp.sub (cI 15) (.t 99)),oN 101 (.asl 15 (.t 20) none (some (.t 100))),oN 102 (.append 49103 3 1 (.t 96) (.t 101)),{ d:=none,g:=none,k:=OpK.store 1 (.t 17) (.t 102) }]) (.gh [.keep [2,4,5,6,17,18,21]] (.reg none [oN 103 (.load false 1 (.t 18)),mV 104 21,oN 105 (.bin Go.BinOp.add (.t 103) (.t 104)),{ d:=none,g:=none,k:=OpK.store 1 (.t 18) (.t 105) }]))))))))))) (.seq (.reg (some [(1,2)]) [oN 106 (.load false 1 (.t 17)),oN 107 (.load false 1 (.t 18)),{ d:=none,g:=none,k:=OpK.store 1 (.t 4) (.t 106) },{ d:=none,g:=none,k:=OpK.store 1 (.t 5) (.t 107) },{ d:=none,g:=none,k:=OpK.store 1 (.t 6) (cI 0) }]) ACode.ret)))))],defs:=[(49902,0)],rnd:=none,ret:=false,res:=[ARes.cell 4 false 1,ARes.cell 5 false 1,ARes.cell 6 false 1] }]
def Zib(m p q h D:Int)(l0 l1 l2 l3 l4:List Int)(n5:Int)(l6 l7:List Int)(n8 n9 n10 n11 n12 n13:Int)(l14:List Int)(n15 n16:Int):Zaa:=[(49003,{ base:=0,blks:=[Blk.row 78 5 (Row.gen [AV.agg (Row.gen [AV.int .i64 m,AV.int .i64 p,AV.int .i64 q,AV.int .i64 h,AV.int .i64 D])])] }),(49005,{ base:=0,blks:=[Blk.row 25 1 (Row.gen [AV.nils])] }),vG 49006 (.int .i64 0),(49007,{ base:=0,blks:=[Blk.row 27 1 (Row.gen [.int .i64 0])] }),(49013,{ base:=0,blks:=[Blk.row 25 1 (Row.gen [.row 49075 0])] }),vK 49075 l6,(49902,{ base:=0,blks:=[Blk.dfr,Blk.lp { st:=RSt.busy,fn:=49,N:=108,env:=[vP 2 49003,vP 4 49005,vP 5 49006,vP 6 49007,vL 10 l2,vP 12 49013,vL 57 l3,(58,AV.fn 119 [AV.ptr 96003 0 0 0,AV.ptr 96004 0 0 0])],params:=[59],asg:=ACode.reg none [mV 13 59],body:=ACode.block 1 v7Q }] }),(96003,{ base:=0,blks:=[Blk.row 25 1 (Row.gen [.list (.ints .i64 l4)])] }),vG 96004 (.int .i64 4)]
abbrev Zow(m p q h D:Int)(l0 l1 l2 l3 l4:List Int)(n5:Int)(l6 l7:List Int)(n8 n9 n10 n11 n12 n13:Int)(l14:List Int)(n15 n16:Int):List AFrame×Zaa:=(Zlp m p q h D l0 l1 l2 l3 l4 n5 l6 l7 n8 n9 n10 n11 n12 n13 l14 n15 n16,Zib m p q h D l0 l1 l2 l3 l4 n5 l6 l7 n8 n9 n10 n11 n12 n13 l14 n15 n16)
def ZiU(m p q h D:Int)(l17:List Int)(n18 n19:Int)(l20:List Int):List AFrame:=[vF 119 31 [(0,AV.yld 49901 1),vP 1 96003,vP 2 96004,vI 4 n18] (vC ZtN Zuu) [],{ fn:=49,N:=108,env:=[vP 2 49003,vP 4 49005,vP 5 49006,vP 6 49007,vP 17 49018,vP 18 49019,(82,AV.fn 119 [AV.ptr 96003 0 0 0,AV.ptr 96004 0 0 0])],todo:=[.inRF 49901 1,.inBlock 4, .code (.seq (.reg (some [(1,2)]) [oN 106 (.load false 1 (.t 17)),oN 107 (.load false 1 (.t 18)),{ d:=none,g:=none,k:=OpK.store 1 (.t 4) (.t 106) },{ d:=none,g:=none,k:=OpK.store 1 (.t 5) (.t 107) },{ d:=none,g:=none,k:=OpK.store 1 (.t 6) (cI 0) }]) ACode.ret)],defs:=[(49901,0),(49902,0)],rnd:=none,ret:=false,res:=[ARes.cell 4 false 1,ARes.cell 5 false 1,ARes.cell 6 false 1] }]
def ZfU(m p q h D:Int)(l17:List Int)(n18 n19:Int)(l20:List Int):Zaa:=[(49003,{ base:=0,blks:=[Blk.row 78 5 (Row.gen [AV.agg (Row.gen [AV.int .i64 m,AV.int .i64 p,AV.int .i64 q,AV.int .i64 h,AV.int .i64 D])])] }),(49005,{ base:=0,blks:=[Blk.row 25 1 (Row.gen [AV.nils])] }),vG 49006 (.int .i64 0),(49007,{ base:=0,blks:=[Blk.row 27 1 (Row.gen [.int .i64 0])] }),(49018,{ base:=0,blks:=[Blk.row 25 1 (Row.gen [.row 49103 0])] }),vG 49019 (.int .i64 n19),vK 49082 l17,vK 49103 l20,(49901,{ base:=0,blks:=[Blk.dfr,Blk.lp { st:=RSt.ready,fn:=49,N:=108,env:=[vP 2 49003,vP 4 49005,vP 5 49006,vP 6 49007,vP 17 49018,vP 18 49019,(82,AV.fn 119 [AV.ptr 96003 0 0 0,AV.ptr 96004 0 0 0])],params:=[83],asg:=ACode.reg none [mV 19 83],body:=ACode.block 5 (.seq (.reg (some [(0,10),(1,10),(2,10),(3,10),(4,10),(5,10),(6,10),(7,10),(8,10),(8,11),(9,10),(9,11)]) [mV 85 19,oN 86 (.s2a 15 (.t 85)),oN 87 (.load true 15 (.t 86)),oN 88 (.faddr 3 (.t 2)),oN 89 (.load false 1 (.t 88)),oN 90 (.ncall true 0 90 [.t 87,.t 89]),mV 84 90,oN 91 (.ext 0 (.t 84)),oN 92 (.ext 1 (.t 84)),oN 93 (.ext 2 (.t 84)),oN 20 (.alloc 49021 107 (AV.agg (.ints .i64 [0,0,0,0,0,0,0,0,0,0,0,0,0,0,0]))),{ d:=none,g:=none,k:=OpK.store 15 (.t 20) (.t 91) },mV 21 92,mV 22 93]) (.gh [.keep [2,4,5,6,17,18,20,21,22]] (.seq (.seq (.reg none [mV 94 22,oN 95 (.not (.t 94))]) (.cond (.t 95) (.seq (.reg none [{ d:=none,g:=none,k:=OpK.store 1 (.t 4) (.c AV.nils) },{ d:=none,g:=none,k:=OpK.store 1 (.t 5) (cI 0) },{ d:=none,g:=none,k:=OpK.store 1 (.t 6) (cI 27) }]) ACode.ret) ACode.skip)) (.seq (.reg (some []) [oN 96 (.load false 1 (.t 17)),oN 97 (.faddr 3 (.t 2)),oN 98 (.load false 1 (.t 97)),oN 99 (.bin Go.BinOp.mul (cI 2) (.t 98)),oN 100 (.bin Go.BinOp.sub (cI 15) (.t 99)),oN 101 (.asl 15 (.t 20) none (some (.t 100))),oN 102 (.append 49103 3 1 (.t 96) (.t 101)),{ d:=none,g:=none,k:=OpK.store 1 (.t 17) (.t 102) }]) (.gh [.keep [2,4,5,6,17,18,21]] (.reg none [oN 103 (.load false 1 (.t 18)),mV 104 21,oN 105 (.bin Go.BinOp.add (.t 103) (.t 104)),{ d:=none,g:=none,k:=OpK.store 1 (.t 18) (.t 105) }])))))) }] }),(49902,{ base:=0,blks:=[Blk.dfr] }),(96003,{ base:=0,blks:=[Blk.row 25 1 (Row.gen [.row 49082 0])] }),vG 96004 (.int .i64 15)]
abbrev Zk9(m p q h D:Int)(l17:List Int)(n18 n19:Int)(l20:List Int):List AFrame×Zaa:=(ZiU m p q h D l17 n18 n19 l20,ZfU m p q h D l17 n18 n19 l20)
def Zx2(A:Ar)(K:KT)(F:FT)(m p q h D:Int)(l:List Int):Prop:=let u1:=A.mul (A.mul D 15) 4;let u0:=A.mul 2 (A.add u1 m);bB (A.not (A.eq (lkE m p q h D) 0)) (F (AV.tup [AV.nils,AV.int .i64 0,AV.int .i64 (lkE m p q h D)]) none) (rB [decide (List.length [Zau (A.eq (A.int (A.len l)) u0) 10,ZaM l (-7) 7]≤1000000),List.all [AV.int .i64 (Zau (A.eq (A.int (A.len l)) u0) 10),AV.int .i64 (ZaM l (-7) 7)] fun x=>AV.bx x&&Nat.beq (Zag A x) 1,decide (List.length l≤1000000),A.inR .i64 u0,A.inR .i64 (A.add u1 m),A.inR .i64 u1,A.inR .i64 (A.mul D 15)] (bB (A.not (A.eq (ZaE [Zau (A.eq (A.int (A.len l)) u0) 10,ZaM l (-7) 7]) 0)) (F (AV.tup [AV.nils,AV.int .i64 0,AV.int .i64 (ZaE [Zau (A.eq (A.int (A.len l)) u0) 10,ZaM l (-7) 7])]) none) (rB [decide (okI m p q l=true)] (rB [!A.lt 4 1] (K (Zl2 m p q h D (blI m p q l) (blI m p q l) (blI m p q l) (blI m p q l) (blI m p q l) 0 []))))))
theorem ZQg{A:Ar}{K:KT}{F:FT}{M:MT}{m p q h D:Int}{l:List Int} :Zah A tab Ko 49 K F M (.run 19 (.tf (.run 8 (.fn)) (.run 35 (.tf (.run 8 (.fn)) (.run 38 (.fy (.run 18 (.hd)))))))) (ZV8 m p q h D l) []=Zx2 A K F m p q h D l:=by kernel_rfl
def Zf4(A:Ar)(K:KT)(F:FT)(m p q h D:Int)(l0 l1 l2 l3 l4:List Int)(n5:Int)(l6:List Int):Prop:=let u6:=A.nat n5;let u0:=A.min 4 (A.int (A.len (A.sub3 l4 u6 (A.len l4-A.nat n5))));let u1:=A.add n5 u0;let u2:=A.sub3 l4 u6 (A.nat u1-A.nat n5);let u3:=A.quo (A.int (A.len l6)) D;let u4:=A.len l4;let u5:=A.nat u1;bB (A.lt n5 (A.int u4)) (rB [Zad (Zad (A.le 0 n5) (A.le 0 u1)) (Zad (Zad (Nat.ble u6 u5) (Nat.ble u5 u4)) (Zad (A.le 0 u1) (Zad (Nat.ble u5 u5) (Nat.ble u5 u4)))),A.inR .i64 u1,A.inR .i64 u1,Zad (Zad (A.le 0 n5) true) (Zad (Zad (Nat.ble u6 u4) (Nat.ble u4 u4)) true)] (K (Zow m p q h D l0 l1 l2 l3 l4 n5 l6 u2 (A.int (A.len u2)) u0 u0 u1 u0 u1 u2 0 0))) (rB [decide (rcB l6 u3=true),Zad (A.not (A.eq D 0)) (A.inR .i64 u3)] (rB [!A.lt 15 1] (K (Zk9 m p q h D (tS l6 (Int.toNat u3)) 0 0 []))))
theorem Zmg{A:Ar}{K:KT}{F:FT}{M:MT}{m p q h D:Int}{l0 l1 l2 l3 l4:List Int}{n5:Int}{l6:List Int} :Zah A tab Ko 49 K F M (.run 9 (.tf (.run 38 (.hd)) (.run 31 (.fy (.run 19 (.hd)))))) (ZfJ m p q h D l0 l1 l2 l3 l4 n5 l6) (ZdZ m p q h D l0 l1 l2 l3 l4 n5 l6)=Zf4 A K F m p q h D l0 l1 l2 l3 l4 n5 l6:=by kernel_rfl
def ZhG(A:Ar)(K:KT)(F:FT)(m p q h D:Int)(l0 l1 l2 l3 l4:List Int)(n5:Int)(l6 l7:List Int)(n8 n9 n10 n11 n12 n13:Int)(l14:List Int)(n15 n16:Int):Prop:=bB (A.lt n16 n8) (rB [A.inR .i64 (A.add n16 1),Zad (Zad (A.le 0 1) (Nat.blt (A.nat 1) 64)) (A.inR .i64 (A.shl n15 1)),Zad (Zad (A.le 0 n16) (Nat.blt (A.nat n16) (A.len l7))) true] (K (Zow m p q h D l0 l1 l2 l3 l4 n5 l6 l7 n8 n9 n10 n11 n12 n13 l14 (A.bits Go.BinOp.or .i64 (A.shl n15 1) (A.nth l7 (A.nat n16))) (A.add n16 1)))) (rB [Nat.ble (A.len l6+A.len [n15]) 4294967296,List.all [AV.int .i64 n15] fun x=>AV.bx x&&Nat.beq (Zag A x) 1] (rB [!A.not true] (rB [A.inR .i64 (A.add n5 4)] (K (Zl2 m p q h D l0 l1 l2 l3 l4 (A.add n5 4) (A.app l6 [n15]))))))
theorem Znc{A:Ar}{K:KT}{F:FT}{M:MT}{m p q h D:Int}{l0 l1 l2 l3 l4:List Int}{n5:Int}{l6 l7:List Int}{n8 n9 n10 n11 n12 n13:Int}{l14:List Int}{n15 n16:Int} :Zah A tab Ko 49 K F M (.run 6 (.tf (.run 23 (.hd)) (.run 13 (.fy (.run 10 (.hd)))))) (Zlp m p q h D l0 l1 l2 l3 l4 n5 l6 l7 n8 n9 n10 n11 n12 n13 l14 n15 n16) (Zib m p q h D l0 l1 l2 l3 l4 n5 l6 l7 n8 n9 n10 n11 n12 n13 l14 n15 n16)=ZhG A K F m p q h D l0 l1 l2 l3 l4 n5 l6 l7 n8 n9 n10 n11 n12 n13 l14 n15 n16:=by kernel_rfl
def Zd0(A:Ar)(K:KT)(F:FT)(m p q h D:Int)(l17:List Int)(n18 n19:Int)(l20:List Int):Prop:=let u6:=A.nat n18;let u8:=A.len l17-A.nat n18;let u0:=A.add n18 (A.min 15 (A.int (A.len (A.sub3 l17 u6 u8))));let u1:=A.sub3 l17 u6 15;let u2:=A.sub 15 (A.mul 2 h);let u3:=A.len l17;let u4:=A.nat u0;let u5:=A.sub3 (deV h u1) 0 (A.nat u2-0);let u7:=A.add n19 (deN h u1);let u9:=A.len (deV h u1);bB (A.lt n18 (A.int u3)) (rB [Nat.beq u9 15,Nat.blt 0 (A.len [0,0,0,0,0,0,0,0,0,0,0,0,0,0,0]),decide (okw u1=true∧hfB h=true),Zad (Nat.ble (A.nat n18+15) u3) true,Nat.ble 15 (A.nat u0-A.nat n18),Zad (Zad (A.le 0 n18) (A.le 0 u0)) (Zad (Zad (Nat.ble u6 u4) (Nat.ble u4 u3)) (Zad (A.le 0 u0) (Zad (Nat.ble u4 u4) (Nat.ble u4 u3)))),A.inR .i64 u0,A.inR .i64 u0,Nat.ble (A.nat n18+u8) u3,Zad (Zad (A.le 0 n18) true) (Zad (Zad (Nat.ble u6 u3) (Nat.ble u3 u3)) true)] (bB (A.not (Option.isSome (deO h u1))) (rB [A.not false] (F (AV.tup [AV.nils,AV.int .i64 0,AV.int .i64 27]) none)) (rB [A.inR .i64 u7,Zad (Zad (Zad (Nat.ble (0+(A.nat u2-0)) u9) true) true) (Nat.ble (A.len l20+A.len u5) 4294967296),Zad (A.le 0 u2) (Zad (Nat.ble 0 (A.nat u2)) (Nat.ble (A.nat u2) 15)),A.inR .i64 u2,A.inR .i64 (A.mul 2 h)] (rB [!A.not true] (rB [A.inR .i64 (A.add n18 15)] (K (Zk9 m p q h D l17 (A.add n18 15) u7 (A.app l20 u5)))))))) (F (AV.tup [AV.row 0 0,AV.int .i64 n19,AV.int .i64 0]) (some { e:=3,sz:=1,r:=.ints .i64 l20 }))
theorem Zgh{A:Ar}{K:KT}{F:FT}{M:MT}{m p q h D:Int}{l17:List Int}{n18 n19:Int}{l20:List Int} :Zah A tab Ko 49 K F M (.run 9 (.tf (.run 33 (.tf (.run 10 (.ty (.run 6 (.fn)))) (.run 15 (.fy (.run 10 (.hd)))))) (.run 10 (.fn)))) (ZiU m p q h D l17 n18 n19 l20) (ZfU m p q h D l17 n18 n19 l20)=Zd0 A K F m p q h D l17 n18 n19 l20:=by kernel_rfl
end Go.Proofs.Ytklbmkllepkjcaa
/- Words of the code: what is filled, how far words are apart. No condition. -/
namespace Go.Proofs.Ytklbmkllepkjcaa
def Zrs(j:Nat)(w:Nat→Nat):Nat:=dt w (fun i=>Zbm (j*(14-i))) 15
theorem Zir(j:Nat):El (fun i=>Zbm (j*(14-i))):=fun _=>ZbO _
def wfn(w:List Int)(i:Nat):Nat:=(w.getD i 0).toNat
theorem Zd6{w:List Int}(h:ZaM w 0 15=0):El (wfn w):=fun i=>by
 have:=of_decide_eq_true (Zjl h i)
 unfold wfn;omega
theorem ZyR(j:Nat){w:List Int}(hl:w.length=15):∀n,n≤15→dt (wfn w) (fun i=>Zbm (j*(14-i))) n ^^^ Zrr j n ((wdN w).drop n)=Zrr j 0 (wdN w)
 |0,_=>by rw[dt,List.drop_zero,Nat.zero_xor]
 |n+1,hn=>by
  rw[←ZyR j hl n (by omega),ZrE (show n<w.length by omega),Zrr,dt,Nat.xor_assoc];rfl
theorem Zkr{w:List Int}(hl:w.length=15)(j:Nat):syI w j=((Zrs j (wfn w):Nat):Int):=by
 have h:=ZyR j hl 15 (Nat.le_refl _)
 rw[List.drop_of_length_le (by rw[Zue];omega),Zrr,Nat.xor_zero]at h
 unfold syI Zrs;rw[h]
theorem Zye{h:Int}{w:List Int}(hl:w.length=15):isW h w=true↔∀j,j<2*h.toNat→Zrs (j+1) (wfn w)=0:=by
 unfold isW syL
 rw[List.all_eq_true]
 constructor
 ·intro a j hj
  have:=a (syI w (j+1)) (List.mem_map.2 ⟨j,List.mem_range.2 hj,rfl⟩)
  rw[decide_eq_true_eq,Zkr hl]at this
  omega
 ·intro a x hx
  obtain⟨j,hj,rfl⟩:=List.mem_map.1 hx
  rw[decide_eq_true_eq,Zkr hl,a j (List.mem_range.1 hj)];rfl
def upd(w:Nat→Nat)(p v:Nat):Nat→Nat:=fun i=>if i=p then v else w i
theorem Zwb{w g:Nat→Nat}{p v:Nat}(h0:w p=0)(hw:El w)(hg:El g)(hv:v<16):∀n,dt (upd w p v) g n=dt w g n ^^^ (if p<n then Zat v (g p)else 0)
 |0=>by simp[dt]
 |n+1=>by
  rw[dt,dt,Zwb h0 hw hg hv n]
  unfold upd
  by_cases hp:n=p
  ·subst hp
   rw[if_pos rfl,if_neg (Nat.lt_irrefl _),if_pos (by omega),h0,Zd7 (hg n),Nat.xor_zero]
  ·rw[if_neg hp]
   by_cases hlt:p<n
   ·rw[if_pos hlt,if_pos (by omega),Nat.xor_assoc,Nat.xor_assoc,Nat.xor_comm (Zat v (g p))]
   ·rw[if_neg hlt,if_neg (by omega),Nat.xor_zero,Nat.xor_zero]
theorem Zs6{a b g:Nat→Nat}(ha:El a)(hb:El b)(hg:El g):∀n,dt (fun i=>a i ^^^ b i) g n=dt a g n ^^^ dt b g n
 |0=>by simp[dt]
 |n+1=>by rw[dt,dt,dt,Zs6 ha hb hg n,Zdf (ha n) (hb n) (hg n),Zpl]
theorem Zqx:∀(g:Nat→Nat),El g→∀(qs:List Nat),(∀p∈qs,p<15)→qs.Nodup→∀(b:Nat→Nat),El b→(∀i,i<15→i∉qs→b i=0)→dt b g 15=dt (fun k=>b (qs.getD k 0)) (fun k=>g (qs.getD k 0)) qs.length:=by
 intro g hg qs
 induction qs with
 |nil=>
  intro _ _ b hb hz
  rw[List.length_nil,dt]
  exact Zpq hg 15 (fun j hj=>hz j hj (by simp))
 |cons p qs ih=>
  intro h1 h2 b hb hz
  have hpq:p∉qs:=(List.nodup_cons.1 h2).1
  have hbe:El (upd b p 0):=fun i=>by unfold upd;split;decide;exact hb i
  have e:dt b g 15=dt (upd b p 0) g 15 ^^^ Zat (b p) (g p):=by
   have u:=Zwb (w:=upd b p 0) (g:=g) (p:=p) (v:=b p) (by simp[upd]) hbe hg (hb p) 15
   rw[if_pos (h1 p List.mem_cons_self)]at u
   rw[←u]
   refine ZaR _ (fun j _=>?_) (fun _ _=>rfl)
   unfold upd
   by_cases hj:j=p
   ·subst hj;rw[if_pos rfl]
   ·rw[if_neg hj,if_neg hj]
  rw[e,ih (fun q hq=>h1 q (List.mem_cons_of_mem _ hq)) (List.nodup_cons.1 h2).2 (upd b p 0) hbe (fun i hi hn=>by
   unfold upd
   by_cases hip:i=p
   ·rw[if_pos hip]
   ·rw[if_neg hip];exact hz i hi (by simp[hip,hn]))]
  have e2:∀n,dt (fun k=>b ((p::qs).getD k 0)) (fun k=>g ((p::qs).getD k 0)) (n+1)=Zat (b p) (g p) ^^^ dt (fun k=>b (qs.getD k 0)) (fun k=>g (qs.getD k 0)) n:=by
   intro n
   induction n with
   |zero=>rw[dt,dt,dt,Nat.zero_xor,Nat.xor_zero];rfl
   |succ n ih2=>rw[dt,ih2,dt,Nat.xor_assoc];rfl
  rw[List.length_cons,e2,Nat.xor_comm]
  congr 1
  refine ZaR _ (fun j hj=>?_) (fun _ _=>rfl)
  unfold upd
  rw[if_neg]
  intro hq
  exact hpq (hq▸Zbq hj)
theorem ZwA{m:Nat}{c:Nat→Nat}(hc:El c)(ps:List Nat)(hp:∀p∈ps,p<15)(hd:ps.Nodup)(hl:ps.length≤m)(hz:∀i,i<15→i∉ps→c i=0)(hs:∀j,j<m→Zrs (j+1) c=0):∀i,i<15→c i=0:=by
 have hX:El (fun k=>Zbm (14-ps.getD k 0)):=fun _=>ZbO _
 have hC:El (fun k=>c (ps.getD k 0)):=fun _=>hc _
 have hv:=ZPe ps.length (fun k=>c (ps.getD k 0)) (fun k=>Zbm (14-ps.getD k 0)) 1 hC hX (fun _ _=>Zu3 _) (fun i j hi hj he=>by
  have a:=hp _ (Zbq (d:=0) hi)
  have b:=hp _ (Zbq (d:=0) hj)
  have:=Zte (by omega) (by omega) he
  have he2:ps.getD i 0=ps.getD j 0:=by omega
  rw[List.getD_eq_getElem?_getD,List.getElem?_eq_getElem hi,List.getD_eq_getElem?_getD,List.getElem?_eq_getElem hj]at he2
  exact(List.getElem_inj hd).1 he2) (fun j hj=>by
  have s:=hs j (by omega)
  unfold Zrs at s
  rw[Zqx _ (Zir (j+1)) ps hp hd c hc hz]at s
  refine Eq.trans ?_ s
  exact ZaR _ (fun _ _=>rfl) (fun k _=>by rw[Nat.add_comm 1 j,Zs7]))
 intro i hi
 by_cases hm:i∈ps
 ·obtain⟨k,hk,rfl⟩:=List.mem_iff_getElem.1 hm
  have:=hv k hk
  simpa[List.getD_eq_getElem?_getD,hk]using this
 ·exact hz i hi hm
end Go.Proofs.Ytklbmkllepkjcaa
/- What fills a word: the same word whoever fills it. No condition. -/
namespace Go.Proofs.Ytklbmkllepkjcaa
theorem ZxH(r y:Nat→Nat):∀n,dt r y (n+1)=Zat (r 0) (y 0) ^^^ dt (fun k=>r (k+1)) (fun k=>y (k+1)) n
 |0=>by rw[dt,dt,dt,Nat.zero_xor,Nat.xor_zero]
 |n+1=>by rw[dt,ZxH r y n,dt,Nat.xor_assoc]
theorem ZFX{w:List Int}(p:Nat)(v:Int)(hp:p<w.length):wfn (w.set p v)=upd (wfn w) p v.toNat:=by
 funext i
 unfold wfn upd
 rw[ZbK]
 by_cases h:i=p
 ·subst h;rw[if_pos ⟨rfl,hp⟩,if_pos rfl]
 ·rw[if_neg (fun a=>h a.1.symm),if_neg h]
def ZJg(e:List Int):Prop:=∀x∈e,0≤x∧x≤14
theorem ZnG{e:List Int}(h:ZH2 e):ZJg e:=fun x hx=>by
 obtain⟨k,hk,rfl⟩:=List.mem_iff_getElem.1 hx
 have:=h k hk
 simpa[List.getD_eq_getElem?_getD,hk]using this
theorem Zql{e:List Int}{p:Int}(h:erP p e=0):e.Nodup:=by
 refine List.pairwise_iff_getElem.2 fun i j hi hj hij=>?_
 have:=ZpJ h i j hij hj
 rw[List.getD_eq_getElem?_getD,List.getElem?_eq_getElem hi,List.getD_eq_getElem?_getD,List.getElem?_eq_getElem hj]at this
 exact Int.ne_of_lt this
theorem ZDn:∀(e vs w:List Int) (p:Nat),ZJg e→(∀x∈e,x≠(p:Int))→(wrL w e vs).getD p 0=w.getD p 0
 |[],_,_,_,_,_=>by unfold wrL;rfl
 |_::_,[],_,_,_,_=>by unfold wrL;rfl
 |x::e,v::vs,w,p,h1,h2=>by
  rw[wrL,ZDn e vs _ p (fun y hy=>h1 y (List.mem_cons_of_mem _ hy)) (fun y hy=>h2 y (List.mem_cons_of_mem _ hy)),ZbK,if_neg]
  intro a
  have b:=h1 x List.mem_cons_self
  have c:=h2 x List.mem_cons_self
  omega
theorem Zri:∀(e w:List Int) (p:Nat),ZJg e→(zrL w e).getD p 0=if(p:Int)∈e then 0 else w.getD p 0
 |[],_,_,_=>by simp[zrL]
 |x::e,w,p,h1=>by
  have b:=h1 x List.mem_cons_self
  rw[zrL,Zri e _ p (fun y hy=>h1 y (List.mem_cons_of_mem _ hy)),ZbK]
  by_cases hp:(p:Int)∈e
  ·rw[if_pos hp,if_pos (List.mem_cons_of_mem _ hp)]
  ·rw[if_neg hp]
   by_cases hx:x=(p:Int)
   ·subst hx
    rw[if_pos List.mem_cons_self]
    by_cases hl:p<w.length
    ·rw[if_pos ⟨by omega,hl⟩]
    ·rw[if_neg (fun a=>hl a.2),List.getD_eq_getElem?_getD,List.getElem?_eq_none (by omega)];rfl
   ·rw[if_neg (fun a=>hx (by omega)),if_neg (fun a=>(List.mem_cons.1 a).elim (fun a=>hx a.symm) hp)]
theorem ZCt(j:Nat):∀(e vs w:List Int),w.length=15→ZaM w 0 15=0→ZJg e→e.Nodup→vs.length=e.length→(∀i,elB (vs.getD i 0)=true)→(∀x∈e,w.getD x.toNat 0=0)→Zrs j (wfn (wrL w e vs))=Zrs j (wfn w) ^^^ dt (fun i=>Zbm (j*(14-(e.getD i 0).toNat))) (fun i=>(vs.getD i 0).toNat) e.length
 |[],vs,w,_,_,_,_,_,_,_=>by unfold wrL;rw[List.length_nil,dt,Nat.xor_zero]
 |x::e,[],_,_,_,_,_,h,_,_=>by cases h
 |x::e,v::vs,w,hl,hr,hp,hd,hv,he,hz=>by
  have b:=hp x List.mem_cons_self
  have v0:elB v=true:=he 0
  have v1:=of_decide_eq_true v0
  have hx:=(List.nodup_cons.1 hd).1
  rw[wrL,ZCt j e vs (w.set x.toNat v) (by rw[List.length_set,hl]) (Zsr hr _ v0) (fun y hy=>hp y (List.mem_cons_of_mem _ hy)) (List.nodup_cons.1 hd).2 (by simpa using hv) (fun i=>he (i+1)) (fun y hy=>by
   have b2:=hp y (List.mem_cons_of_mem _ hy)
   rw[ZbK,if_neg (fun a=>hx (by have e0:x=y:=(by omega);exact e0▸hy))]
   exact hz y (List.mem_cons_of_mem _ hy))]
  have w0:wfn w x.toNat=0:=by unfold wfn;rw[hz x List.mem_cons_self];rfl
  unfold Zrs
  rw[ZFX _ _ (by omega),Zwb w0 (Zd6 hr) (Zir j) (by omega),if_pos (show x.toNat<15 by omega),List.length_cons,ZxH _ _ e.length,Nat.xor_assoc]
  congr 2
  exact Zbe (a:=v.toNat) (show v.toNat<16 by omega) (ZbO _)
theorem ZLf:∀(e c:List Int),c.length=15→ZJg e→e.Nodup→∀w:List Int,w.length=15→(∀p:Nat,p<15→(p:Int)∉e→w.getD p 0=c.getD p 0)→wrL w e (e.map fun x=>c.getD x.toNat 0)=c
 |[],c,hc,_,_,w,hw,h=>by
  unfold wrL
  refine List.ext_getElem (by omega) fun i h1 h2=>?_
  have:=h i (by omega) (by simp)
  rwa[List.getD_eq_getElem?_getD,List.getElem?_eq_getElem h1,List.getD_eq_getElem?_getD,List.getElem?_eq_getElem h2]at this
 |x::e,c,hc,hp,hd,w,hw,h=>by
  have b:=hp x List.mem_cons_self
  rw[List.map_cons,wrL]
  refine ZLf e c hc (fun y hy=>hp y (List.mem_cons_of_mem _ hy)) (List.nodup_cons.1 hd).2 _ (by rw[List.length_set,hw]) fun p h1 h2=>?_
  rw[ZbK]
  by_cases hx:x.toNat=p
  ·subst hx;rw[if_pos ⟨rfl,by omega⟩]
  ·rw[if_neg (fun a=>hx a.1)]
   exact h p h1 (fun a=>(List.mem_cons.1 a).elim (fun a=>by omega) h2)
theorem ZOu{l e:List Int}(hl:ZaM l 0 15=0)(h15:l.length=15)(j:Nat){y:Nat→Nat}(h1:y e.length=1):dt (fiM l e j) y (e.length+1)=dt (fun i=>Zbm ((j+1)*(14-(e.getD i 0).toNat))) y e.length ^^^ Zrs (j+1) (wfn l):=by
 have e1:fiM l e j e.length=Zrs (j+1) (wfn l):=by
  unfold fiM
  rw[if_neg (Nat.lt_irrefl _),if_pos rfl]
  have:=Zkr h15 (j+1)
  unfold syI at this
  omega
 rw[dt,h1,e1,Zkb (show Zrs (j+1) (wfn l)<16 from Zo8 (Zd6 hl) (Zir _) 15)]
 congr 1
 refine ZaR _ (fun i hi=>?_) (fun _ _=>rfl)
 unfold fiM
 rw[if_pos hi]
theorem ZS5{h:Int}{w e vs:List Int}(hg:fiG w h e=true)(hv:vs.length=e.length)(he:∀i,elB (vs.getD i 0)=true):ZA (fiM (zrL w e) e) (2*h.toNat) e.length (fun j=>if j<e.length then(vs.getD j 0).toNat else 1)↔isW h (wrL (zrL w e) e vs)=true:=by
 obtain⟨g1,g2,g3,g4,g5⟩:=ZjZ hg
 obtain⟨z2,z3⟩:=okw_iff.1 (ZlQ e g1)
 rw[Zye (by rw[ZlU,z2])]
 refine forall_congr' fun j=>imp_congr_right fun _=>?_
 rw[ZOu z3 z2 j (if_neg (Nat.lt_irrefl _)),ZCt (j+1) e vs _ z2 z3 (ZnG g4) (Zql g5) hv he (fun x hx=>by
  have:=ZnG g4 x hx
  rw[Zri e w x.toNat (ZnG g4),if_pos]
  rwa[Int.toNat_of_nonneg this.1]),Nat.xor_comm,ZaR (s:=fun i=>Zbm ((j+1)*(14-(e.getD i 0).toNat))) e.length (fun _ _=>rfl) (fun i hi=>if_pos hi)]
theorem Zx6{h:Int}{w e:List Int}(hg:fiG w h e=true):fiO h w e=isW h (fiW h w e):=by
 obtain⟨B,hB⟩:=Zk4 hg
 obtain⟨b1,b2,b3,b4⟩:=Zt8 hg hB
 have q:=ZS5 hg (Zc9 B e.length e.length) (fun i=>Zr2 b1 _ _ i)
 have hy:El (fun j=>if j<e.length then(((ZcS B e.length e.length).getD j 0)).toNat else 1):=fun j=>by
  have:=of_decide_eq_true (Zr2 b1 e.length e.length j)
  show(if j<e.length then((ZcS B e.length e.length).getD j 0).toNat else 1)<16
  split<;>omega
 rw[←b4 _ hy,ZpM b1 b2 b3 hy (if_neg (Nat.lt_irrefl _))]at q
 have s0:∀j,j<e.length→(if j<e.length then((ZcS B e.length e.length).getD j 0).toNat else 1)=B j e.length:=fun j hj=>by
  rw[if_pos hj]
  unfold ZcS
  rw[List.getD_eq_getElem?_getD,List.getElem?_map,List.getElem?_range hj];rfl
 have z:fiZ (2*h.toNat) e.length B=true↔∀i,e.length≤i→i<2*h.toNat→B i e.length=0:=by
  unfold fiZ
  rw[List.all_eq_true]
  constructor
  ·intro a i h1 h2
   have:=a i (List.mem_range.2 h2)
   rw[Bool.or_eq_true,decide_eq_true_eq,decide_eq_true_eq]at this
   rcases this with t |t
   ·omega
   ·exact t
  ·intro a i hi
   rw[Bool.or_eq_true,decide_eq_true_eq,decide_eq_true_eq]
   by_cases h1:i<e.length
   ·exact Or.inl h1
   ·exact Or.inr (a i (by omega) (List.mem_range.1 hi))
 unfold fiO fiW
 rw[hB]
 show fiZ _ _ B=isW h (wrL (zrL w e) e (ZcS B e.length e.length))
 rw[Bool.eq_iff_iff,z,←q]
 exact⟨fun a=>⟨s0,a⟩,fun a=>a.2⟩
theorem ZUq{h:Int}{w e:List Int}(ho:fiO h w e=true):fiV h w e=fiW h w e:=by
 unfold fiO at ho
 unfold fiV fiW
 cases hB:fiB h w e with
 |none=>rw[hB]at ho;cases ho
 |some B=>rw[hB]at ho;exact if_pos ho
theorem Zyc{h:Int}{w e c:List Int}(hg:fiG w h e=true)(hc:okw c=true)(hw:isW h c=true)(ha:∀p:Nat,p<15→(p:Int)∉e→w.getD p 0=c.getD p 0):fiW h w e=c:=by
 obtain⟨g1,g2,g3,g4,g5⟩:=ZjZ hg
 obtain⟨z2,z3⟩:=okw_iff.1 (ZlQ e g1)
 obtain⟨c2,c3⟩:=okw_iff.1 hc
 obtain⟨B,hB⟩:=Zk4 hg
 obtain⟨b1,b2,b3,b4⟩:=Zt8 hg hB
 have hx:=ZLf e c c2 (ZnG g4) (Zql g5) (zrL w e) z2 (fun p h1 h2=>by rw[Zri e w p (ZnG g4),if_neg h2];exact ha p h1 h2)
 have hel:∀i,elB ((e.map fun x=>c.getD x.toNat 0).getD i 0)=true:=fun i=>by
  rw[List.getD_eq_getElem?_getD,List.getElem?_map]
  cases hi:e[i]? with
  |none=>rfl
  |some x=>exact Zjl c3 x.toNat
 have q:=(ZS5 hg (List.length_map _) hel).2 (by rw[hx];exact hw)
 have hy:El (fun j=>if j<e.length then((e.map fun x=>c.getD x.toNat 0).getD j 0).toNat else 1):=fun j=>by
  have:=of_decide_eq_true (hel j)
  show(if j<e.length then((e.map fun x=>c.getD x.toNat 0).getD j 0).toNat else 1)<16
  split<;>omega
 rw[←b4 _ hy,ZpM b1 b2 b3 hy (if_neg (Nat.lt_irrefl _))]at q
 have hs:ZcS B e.length e.length=e.map fun x=>c.getD x.toNat 0:=by
  refine List.ext_getElem (by rw[Zc9,List.length_map]) fun i h1 h2=>?_
  have hi:i<e.length:=by rwa[List.length_map]at h2
  have a:=q.1 i hi
  rw[if_pos hi]at a
  have b:=of_decide_eq_true (hel i)
  rw[List.getD_eq_getElem?_getD,List.getElem?_eq_getElem h2]at a b
  have s:(ZcS B e.length e.length)[i]=((B i e.length:Nat):Int):=by simp[ZcS]
  rw[s,←a]
  exact Int.toNat_of_nonneg b.1
 unfold fiW
 rw[hB]
 show wrL (zrL w e) e (ZcS B e.length e.length)=c
 rw[hs,hx]
end Go.Proofs.Ytklbmkllepkjcaa
/- Roots of polynomials over the field of 16; sums of sums. No condition. -/
namespace Go.Proofs.Ytklbmkllepkjcaa
def hn(q:Nat→Nat)(x:Nat):Nat→Nat
 |0=>0
 |n+1=>Zat (hn q x n) x ^^^ q n
theorem ZmE{q:Nat→Nat}(hq:El q){x:Nat}(hx:x<16):∀n,hn q x n<16
 |0=>by rw[hn];decide
 |n+1=>Zcc (Zbx (ZmE hq hx n) hx) (hq n)
theorem ZDf{q:Nat→Nat}(hq:El q){x a:Nat}(hx:x<16)(ha:a<16):∀n,hn q x (n+1) ^^^ hn q a (n+1)=Zat (hn (fun i=>hn q a (i+1)) x n) (x ^^^ a)
 |0=>by rw[hn,hn,hn,hn,hn,Zd7 hx,Zd7 ha,Zd7 (Zcc hx ha),Nat.xor_self]
 |n+1=>by
  have ih:=ZDf hq hx ha n
  have hq':El (fun i=>hn q a (i+1)):=fun i=>ZmE hq ha (i+1)
  have l1:=ZmE hq hx (n+1)
  have l2:=ZmE hq ha (n+1)
  have l3:=ZmE hq' hx n
  have e1:hn (fun i=>hn q a (i+1)) x (n+1)=Zat (hn (fun i=>hn q a (i+1)) x n) x ^^^ hn q a (n+1):=rfl
  have e2:hn q x (n+1)=hn q a (n+1) ^^^ Zat (hn (fun i=>hn q a (i+1)) x n) (x ^^^ a):=by
   rw[←ih,Nat.xor_comm (hn q x (n+1)),←Nat.xor_assoc,Nat.xor_self,Nat.zero_xor]
  have e3:∀k,hn q k (n+1+1)=Zat (hn q k (n+1)) k ^^^ q (n+1):=fun k=>rfl
  rw[e3,e3,e1,Zpl,Nat.xor_self,Nat.xor_zero,Zdf (Zbx l3 hx) l2 (Zcc hx ha),e2]
  generalize hn (fun i=>hn q a (i+1)) x n=P at*
  clear e2 e3 e1 ih l1
  generalize hn q a (n+1)=Q at*
  rw[Zdf l2 (Zbx l3 (Zcc hx ha)) hx,ZFY hx ha l2,ZaO l3 (Zcc hx ha) hx,ZaO l3 hx (Zcc hx ha),Zbe (Zcc hx ha) hx]
  generalize Zat P _=PP
  rw[Nat.xor_assoc,Nat.xor_comm PP (Zat Q a),←Nat.xor_assoc,Nat.xor_comm]
theorem Zje:∀(n:Nat) (q X:Nat→Nat),El q→El X→(∀i j,i<n→j<n→X i=X j→i=j)→(∀k,k<n→hn q (X k) n=0)→∀i,i<n→q i=0
 |0,_,_,_,_,_,_,i,hi=>by omega
 |n+1,q,X,hq,hX,hd,hz,i,hi=>by
  have z:=hz n (by omega)
  have ih:=Zje n (fun i=>hn q (X n) (i+1)) X (fun i=>ZmE hq (hX n) (i+1)) hX (fun i j hi hj=>hd i j (by omega) (by omega)) (fun k hk=>by
   have s:=ZDf hq (hX k) (hX n) n
   rw[z,hz k (by omega),Nat.xor_self]at s
   rcases ZbT (ZmE (q:=fun i=>hn q (X n) (i+1)) (fun i=>ZmE hq (hX n) (i+1)) (hX k) n) (Zcc (hX k) (hX n)) s.symm with h |h
   ·exact h
   ·have:=hd k n (by omega) (by omega) (Zpd h);omega)
  have a:∀j,j≤n+1→hn q (X n) j=0:=fun j hj=>by
   cases j with
   |zero=>rfl
   |succ j=>
    by_cases h:j<n
    ·exact ih j h
    ·have:j=n:=by omega
     subst this;exact z
  have b:=a (i+1) (by omega)
  rw[hn,a i (by omega),Zd7 (hX n),Nat.zero_xor]at b
  exact b
theorem Zv5{x:Nat}(hx:x<16)(a:Nat):∀b,pw x (a+b)=Zat (pw x a) (pw x b)
 |0=>by rw[Nat.add_zero,pw,Zkb (Zbw hx a)]
 |b+1=>by
  rw[←Nat.add_assoc,pw,Zv5 hx a b,pw,ZaO (Zbw hx a) (Zbw hx b) hx]
theorem Zw5{E y:Nat→Nat}{f:Nat→Nat→Nat}(hE:El E)(hy:El y)(hf:∀k,El (f k))(t:Nat):∀n,dt (fun i=>dt E (fun k=>f k i) t) y n=dt E (fun k=>dt (f k) y n) t
 |0=>by
  rw[dt]
  exact(ZqK hE t (fun k _=>by rw[dt])).symm
 |n+1=>by
  rw[dt,Zw5 hE hy hf t n]
  have hl:El (fun k=>dt (f k) y n):=fun k=>Zo8 (hf k) hy n
  have hr:El (fun k=>f k n):=fun k=>hf k n
  have hr2:El (fun k=>Zat (f k n) (y n)):=fun k=>Zbx (hf k n) (hy n)
  have s:=Zhn hr hE (hy n) t
  rw[ZkD hE hl t,ZkD hE hr t,←s,←Zs6 hl hr2 hE t,ZkD (fun k=>Zcc (hl k) (hr2 k)) hE t]
  exact ZaR _ (fun _ _=>rfl) (fun k _=>by rw[dt])
end Go.Proofs.Ytklbmkllepkjcaa
/- The locator polynomial: its equations have one solution, its roots are the places of the errors. No condition. -/
namespace Go.Proofs.Ytklbmkllepkjcaa
theorem ZyJ{a b c d:Nat→Nat} :∀n,(∀k,k<n→Zat (a k) (b k)=Zat (c k) (d k))→dt a b n=dt c d n
 |0,_=>rfl
 |n+1,h=>by rw[dt,dt,ZyJ n (fun k hk=>h k (by omega)),h n (by omega)]
theorem ZKu{y:Nat→Nat}(hy:El y){x:Nat}(hx:x<16):∀n,dt (fun i=>pw x (n-1-i)) y n=hn y x n
 |0=>rfl
 |n+1=>by
  have ih:=ZKu hy hx n
  rw[dt,hn,←ih,←Zhn (fun i=>Zbw hx _) hy hx]
  have e:Zat (pw x (n+1-1-n)) (y n)=y n:=by rw[show n+1-1-n=0 by omega,pw,ZqN (hy n)]
  rw[e]
  congr 1
  refine ZaR n (fun i hi=>?_) (fun _ _=>rfl)
  rw[show n+1-1-i=n-1-i+1 by omega,pw]
theorem ZtC{q:Nat→Nat}(hq:El q){x:Nat}(hx:x<16):∀n,hn q x (n+1)=Zat (pw x n) (q 0) ^^^ hn (fun i=>q (i+1)) x n
 |0=>by rw[hn,hn,hn,Zd7 hx,pw,ZqN (hq 0),Nat.zero_xor,Nat.xor_zero]
 |n+1=>by
  have hq':El fun i=>q (i+1):=fun i=>hq (i+1)
  rw[hn,ZtC hq hx n]
  show _=_ ^^^ (Zat (hn (fun i=>q (i+1)) x n) x ^^^ q (n+1))
  rw[Zdf (Zbx (Zbw hx n) (hq 0)) (ZmE hq' hx n) hx,pw,ZaO (Zbw hx n) (hq 0) hx,ZaO (Zbw hx n) hx (hq 0),Zbe (hq 0) hx,Nat.xor_assoc]
def gK(x u i:Nat):Nat:=if i<u then pw x (u-1-i)else pw x u
theorem ZzN{x:Nat}(hx:x<16)(u:Nat):El (gK x u):=fun i=>by unfold gK;split<;>exact Zbw hx _
def WK(x u:Nat)(y:Nat→Nat):Nat:=dt (gK x u) y (u+1)
theorem ZE3{y:Nat→Nat}(hy:El y){x:Nat}(hx:x<16)(u:Nat):WK x u y=hn y x u ^^^ Zat (pw x u) (y u):=by
 unfold WK
 rw[dt,←ZKu hy hx u]
 congr 1
 ·exact ZaR u (fun i hi=>by rw[gK,if_pos hi]) (fun _ _=>rfl)
 ·rw[gK,if_neg (Nat.lt_irrefl _)]
section
variable {E X:Nat→Nat}{t:Nat}{s:List Int}(hE:El E)(hX:El X)(h0:∀k,k<t→E k≠0)(hx0:∀k,k<t→X k≠0)(hd:∀i j,i<t→j<t→X i=X j→i=j)
 (hs:∀m,m<s.length→s.getD m 0=((dt E (fun k=>pw (X k) (m+1)) t:Nat):Int))
include hE hX hs
theorem Zxl(u:Nat){y:Nat→Nat}(hy:El y){j:Nat}(hj:j+u<s.length):dt (poM s u j) y (u+1)=dt (fun k=>Zat (E k) (WK (X k) u y)) (fun k=>pw (X k) (j+1)) t:=by
 have hf:∀k,El fun i=>Zat (gK (X k) u i) (pw (X k) (j+1)):=fun k i=>Zbx (ZzN (hX k) u i) (Zbw (hX k) _)
 have e1:dt (poM s u j) y (u+1)=dt (fun i=>dt E (fun k=>Zat (gK (X k) u i) (pw (X k) (j+1))) t) y (u+1):=by
  refine ZaR _ (fun i hi=>?_) (fun _ _=>rfl)
  unfold poM
  by_cases h:i<u
  ·rw[if_pos h,hs _ (by omega),Int.toNat_natCast]
   refine ZaR t (fun _ _=>rfl) (fun k _=>?_)
   rw[gK,if_pos h,←Zv5 (hX k)]
   congr 1;omega
  ·rw[if_neg h,if_pos (by omega),hs _ (by omega),Int.toNat_natCast]
   refine ZaR t (fun _ _=>rfl) (fun k _=>?_)
   rw[gK,if_neg h,←Zv5 (hX k)]
   congr 1;omega
 rw[e1,Zw5 hE hy hf]
 refine ZyJ t fun k _=>?_
 rw[Zhn (ZzN (hX k) u) hy (Zbw (hX k) _),←ZaO (hE k) (Zo8 (ZzN (hX k) u) hy _) (Zbw (hX k) _)]
 rfl
include h0 hx0 hd
theorem Ztj{y:Nat→Nat}(hy:El y)(h2:2*t≤s.length)(hz:∀j,j<t→dt (poM s t j) y (t+1)=0):∀k,k<t→WK (X k) t y=0:=fun k hk=>by
 have hW:El fun k=>WK (X k) t y:=fun k=>Zo8 (ZzN (hX k) t) hy _
 have:=ZPe t (fun k=>Zat (E k) (WK (X k) t y)) X 1 (fun k=>Zbx (hE k) (hW k)) hX hx0 hd (fun j hj=>by
  rw[←hz j hj,Zxl hE hX hs t hy (by omega),Nat.add_comm 1 j]) k hk
 rcases ZbT (hE k) (hW k) this with h |h
 ·exact absurd h (h0 k hk)
 ·exact h
theorem ZHb{y:Nat→Nat}(hy:El y)(h2:2*t≤s.length)(hz:∀j,j<t→dt (poM s t j) y (t+1)=0)(h1:y t=0):∀k,k<t→y k=0:=
 Zje t y X hy hX hd fun k hk=>by
  have:=Ztj hE hX h0 hx0 hd hs hy h2 hz k hk
  rw[ZE3 hy (hX k),h1,ZbU (Zbw (hX k) _),Nat.xor_zero]at this
  exact this
theorem ZKI(hel:s.all elB=true)(h2:2*t≤s.length):∃B,poC s t=some (cN B t)∧ElM B∧∀k,k<t→WK (X k) t (fun j=>if j<t then B j t else 1)=0:=by
 have hA:=ZtT hel t
 have none_no:∀R,t≤R→elA R t 0 (poM s t)≠none:=fun R hR hn=>by
  obtain⟨y,y1,y2,y3,j,j1,j2⟩:=Zsp (u:=t) t 0 _ hA (ZcZ _ _) (by omega) hn
  exact j2 (ZHb hE hX h0 hx0 hd hs y1 h2 (fun j hj=>y2 j (by omega)) y3 j j1)
 obtain⟨B,hB⟩:=Option.ne_none_iff_exists'.1 (none_no (s.length-t) (by omega))
 obtain⟨B',hB'⟩:=Option.ne_none_iff_exists'.1 (none_no t (Nat.le_refl _))
 obtain⟨b1,b2,b3,b4⟩:=ZfV (u:=t) t 0 _ B hA (ZcZ _ _) (by omega) (fun _=>Nat.zero_le _) hB
 obtain⟨c1,c2,c3,c4⟩:=ZfV (u:=t) t 0 _ B' hA (ZcZ _ _) (by omega) (fun _=>Nat.zero_le _) hB'
 have hy:El (fun j=>if j<t then B' j t else 1):=fun j=>by
  show(if j<t then B' j t else 1)<16
  split
  ·exact c1 j t
  ·decide
 have hW:=Ztj hE hX h0 hx0 hd hs hy h2 ((c4 _ hy).1 ((ZpM c1 c2 c3 hy (if_neg (Nat.lt_irrefl _))).2 ⟨fun j hj=>if_pos hj,fun i h1 h2=>by omega⟩))
 have hZ:ZA (poM s t) (s.length-t) t (fun j=>if j<t then B' j t else 1):=fun j hj=>by
  rw[Zxl hE hX hs t hy (by omega)]
  exact Zpq (fun k=>Zbw (hX k) _) t (fun k hk=>by rw[hW k hk,ZbU (hE k)])
 obtain⟨q1,q2⟩:=(ZpM b1 b2 b3 hy (if_neg (Nat.lt_irrefl _))).1 ((b4 _ hy).2 hZ)
 refine⟨B,?_,b1,?_⟩
 ·unfold poC poB
  rw[hB]
  refine if_pos ?_
  unfold fiZ
  rw[List.all_eq_true]
  intro i hi
  rw[Bool.or_eq_true,decide_eq_true_eq,decide_eq_true_eq]
  by_cases h1:i<t
  ·exact Or.inl h1
  ·exact Or.inr (q2 i (by omega) (List.mem_range.1 hi))
 ·have e:(fun j=>if j<t then B j t else 1)=fun j=>if j<t then B' j t else 1:=by
   funext j
   by_cases hj:j<t
   ·have:=q1 j hj
    rw[if_pos hj]at this
    rw[if_pos hj,if_pos hj,this]
   ·rw[if_neg hj,if_neg hj]
  rw[e];exact hW
end
end Go.Proofs.Ytklbmkllepkjcaa
/- The places that the syndromes determine are the places of the errors. No condition. -/
namespace Go.Proofs.Ytklbmkllepkjcaa
theorem ZCd{x z:Nat}(hx:x<16)(hz:z<16)(h:Zat x z=1):∀n,Zat (pw x n) (pw z n)=1
 |0=>by rw[pw,pw];rfl
 |n+1=>by
  have a:=Zbw hx n
  have b:=Zbw hz n
  rw[pw,pw,Zbe b hz,ZaO a hx (Zbx hz b),←ZaO hx hz b,h,ZqN b,ZCd hx hz h n]
theorem ZRN{z:Nat}(hz:z<16)(n:Nat):Zat z (pw z n)=pw z (n+1):=by rw[pw,Zbe hz (Zbw hz n)]
theorem Zuo{z:Nat}(hz:z<16)(a:Nat):∀(l:List Nat) (m t:Nat),t<16→evP z m t (l++[a])=evP z m t l ^^^ Zat a (Zat t (pw z (l.length+1)))
 |[],m,t,_=>by rw[List.nil_append,evP,evP,evP,List.length_nil,pw,pw,ZqN hz]
 |b::l,m,t,ht=>by
  rw[List.cons_append,evP,evP,Zuo hz a l _ _ (Zbx ht hz),ZaO ht hz (Zbw hz _),ZRN hz,List.length_cons]
theorem Zwd{z:Nat}(hz:z<16):∀(l:List Nat) (m t:Nat),m<16→t<16→(∀a∈l,a<16)→evP z m t l<16
 |[],_,_,h,_,_=>h
 |a::l,m,t,hm,ht,hl=>by
  rw[evP]
  exact Zwd hz l _ _ (Zcc hm (Zbx (hl a List.mem_cons_self) (Zbx ht hz))) (Zbx ht hz) (fun b hb=>hl b (List.mem_cons_of_mem _ hb))
theorem ZDU{x z:Nat}(hx:x<16)(hz:z<16)(h:Zat x z=1){y:Nat→Nat}(hy:El y):∀n,Zat (pw x n) (evP z 1 1 ((List.range n).map y))=pw x n ^^^ hn y x n
 |0=>by rw[pw,hn,List.range_zero,List.map_nil,evP];rfl
 |n+1=>by
  have a:=Zbw hx n
  have l:=Zwd hz ((List.range n).map y) 1 1 (by decide) (by decide) (fun b hb=>by obtain⟨i,_,rfl⟩:=List.mem_map.1 hb;exact hy i)
  have k:=Zbw hz (n+1)
  have a1:=Zbw hx (n+1)
  rw[List.range_succ,List.map_append,List.map_cons,List.map_nil,Zuo hz (y n) _ _ _ (by decide),List.length_map,List.length_range,ZqN k,ZFY l (Zbx (hy n) k) a1,Zbe (hy n) k,←ZaO a1 k (hy n),ZCd hx hz h,ZqN (hy n),hn,pw,ZaO a hx l,Zbe hx l,←ZaO a l hx,ZDU hx hz h hy n,Zdf a (ZmE hy hx n) hx,Nat.xor_assoc]
section
variable {E X:Nat→Nat}{t:Nat}{s:List Int}{D:List Nat}(hE:El E)(h0:∀k,k<t→E k≠0)(hD:D.Nodup)(hl:D.length=t)(hp:∀p∈D,p<15)
 (hs:∀m,m<s.length→s.getD m 0=((dt E (fun k=>pw (Zbm (14-D.getD k 0)) (m+1)) t:Nat):Int))
include hE h0 hD hl hp hs
theorem ZHw(hel:s.all elB=true)(h2:2*t≤s.length):poO s t=true∧ZmB s t=((List.range 15).filter fun i=>decide (i∈D)).map fun i:Nat=>(i:Int):=by
 have hX:El fun k=>Zbm (14-D.getD k 0):=fun _=>ZbO _
 have nodup:∀i j,i<t→j<t→D.getD i 0=D.getD j 0→i=j:=fun i j hi hj he=>by
  rw[List.getD_eq_getElem?_getD,List.getElem?_eq_getElem (by omega),List.getD_eq_getElem?_getD,List.getElem?_eq_getElem (by omega)]at he
  exact(List.getElem_inj hD).1 he
 have hd:∀i j,i<t→j<t→Zbm (14-D.getD i 0)=Zbm (14-D.getD j 0)→i=j:=fun i j hi hj he=>by
  have a:=hp _ (Zbq (xs:=D) (d:=0) (by omega:i<D.length))
  have b:=hp _ (Zbq (xs:=D) (d:=0) (by omega:j<D.length))
  have:=Zte (by omega) (by omega) he
  exact nodup i j hi hj (by omega)
 obtain⟨B,q1,q2,q3⟩:=ZKI hE hX h0 (fun k _=>Zu3 _) hd hs hel h2
 have hy:El (fun j=>if j<t then B j t else 1):=fun j=>by
  show(if j<t then B j t else 1)<16
  split
  ·exact q2 j t
  ·decide
 have hc:cN B t=(List.range t).map fun j=>if j<t then B j t else 1:=by
  unfold cN
  exact List.map_congr_left fun j hj=>by rw[if_pos (List.mem_range.1 hj)]
 have root:∀i,i<15→((evP (zN i) 1 1 (cN B t)==0)=true↔WK (Zbm (14-i)) t (fun j=>if j<t then B j t else 1)=0):=fun i hi=>by
  obtain⟨z1,z2⟩:=ZzE (ZbO (14-i)) (Zu3 (14-i))
  have e:=ZDU (ZbO (14-i)) z1 z2 hy t
  have l:=Zwd z1 ((List.range t).map fun j=>if j<t then B j t else 1) 1 1 (by decide) (by decide) (fun b hb=>by obtain⟨i,_,rfl⟩:=List.mem_map.1 hb;exact hy i)
  have w:=ZE3 hy (ZbO (14-i)) t
  rw[if_neg (Nat.lt_irrefl _),Zkb (Zbw (ZbO _) _),Nat.xor_comm]at w
  rw[w,←e,hc,beq_iff_eq]
  constructor
  ·intro a
   unfold zN at a
   rw[a,ZbU (Zbw (ZbO _) _)]
  ·intro a
   rcases ZbT (Zbw (ZbO _) _) l a with a |a
   ·exact absurd a (ZE7 (ZbO _) (Zu3 _) _)
   ·exact a
 have mem:∀i,i<15→(WK (Zbm (14-i)) t (fun j=>if j<t then B j t else 1)=0↔i∈D):=fun i hi=>by
  constructor
  ·intro a
   by_cases hm:i∈D
   ·exact hm
   ·exfalso
    have hq:El (fun n=>if n=0 then 1 else if n-1<t then B (n-1) t else 1):=fun n=>by
     show(if n=0 then 1 else if n-1<t then B (n-1) t else 1)<16
     split
     ·decide
     ·exact hy (n-1)
    have hX':El (fun k=>if k<t then Zbm (14-D.getD k 0)else Zbm (14-i)):=fun k=>by
     show(if k<t then Zbm (14-D.getD k 0)else Zbm (14-i))<16
     split<;>exact ZbO _
    have wq:∀x,x<16→hn (fun n=>if n=0 then 1 else if n-1<t then B (n-1) t else 1) x (t+1)=WK x t (fun j=>if j<t then B j t else 1):=fun x hx=>by
     rw[ZtC hq hx,ZE3 hy hx,if_neg (Nat.lt_irrefl _),Nat.xor_comm]
     rfl
    have ne:∀k,k<t→Zbm (14-D.getD k 0)≠Zbm (14-i):=fun k hk he=>by
     have b:=Zbq (xs:=D) (d:=0) (by omega:k<D.length)
     have:=Zte (by omega) (by omega) he
     have c:=hp _ b
     exact hm ((show i=D.getD k 0 by omega)▸b)
    have:=Zje (t+1) _ _ hq hX' (fun k j hk hj he=>by
     by_cases h1:k<t
     ·by_cases h2:j<t
      ·rw[if_pos h1,if_pos h2]at he;exact hd k j h1 h2 he
      ·rw[if_pos h1,if_neg h2]at he;exact absurd he (ne k h1)
     ·by_cases h2:j<t
      ·rw[if_neg h1,if_pos h2]at he;exact absurd he.symm (ne j h2)
      ·omega) (fun k hk=>by
     rw[wq _ (hX' k)]
     show WK (if k<t then Zbm (14-D.getD k 0)else Zbm (14-i)) t _=0
     by_cases h1:k<t
     ·rw[if_pos h1];exact q3 k h1
     ·rw[if_neg h1];exact a) 0 (by omega)
    rw[if_pos rfl]at this
    exact absurd this (by decide)
  ·intro a
   obtain⟨k,hk,e⟩:=List.mem_iff_getElem.1 a
   have:=q3 k (by omega)
   rwa[List.getD_eq_getElem?_getD,List.getElem?_eq_getElem hk,Option.getD_some,e]at this
 have hX2:poX (cN B t) 15=((List.range 15).filter fun i=>decide (i∈D)).map fun i:Nat=>(i:Int):=by
  unfold poX
  congr 1
  refine List.filter_congr fun i hi=>?_
  have hi:=List.mem_range.1 hi
  rw[Bool.eq_iff_iff,root i hi,mem i hi,decide_eq_true_eq]
 constructor
 ·unfold poO
  rw[q1]
  refine decide_eq_true ?_
  rw[hX2,List.length_map,←hl]
  refine List.Perm.length_eq ?_
  refine(List.perm_ext_iff_of_nodup (List.nodup_range.sublist List.filter_sublist) hD).2 fun i=>?_
  rw[List.mem_filter,List.mem_range,decide_eq_true_eq]
  exact⟨fun a=>a.2,fun a=>⟨hp i a,a⟩⟩
 ·unfold ZmB
  rw[q1]
  exact hX2
end
end Go.Proofs.Ytklbmkllepkjcaa
/- The program's decoding and the reference's find the same word. No condition. -/
namespace Go.Proofs.Ytklbmkllepkjcaa
def dfL(w c:List Int):List Nat:=(List.range 15).filter fun i=>decide (w.getD i 0≠c.getD i 0)
theorem ZkH:∀xs ys:List Int,xs.length=ys.length→Zbv xs ys=(((List.range xs.length).filter fun i=>decide (xs.getD i 0≠ys.getD i 0)).length:Int)
 |[],[],_=>by simp[Zbv]
 |[],_::_,h=>by cases h
 |_::_,[],h=>by cases h
 |x::xs,y::ys,h=>by
  have ih:=ZkH xs ys (by simpa using h)
  rw[Zbv,ih,List.length_cons,List.range_succ_eq_map,List.filter_cons,List.filter_map]
  by_cases hq:x=y
  ·simp[hq,Function.comp_def]
  ·simp[hq,Function.comp_def];omega
theorem ZkY{w c:List Int}(hw:w.length=15)(hc:c.length=15):Zbv w c=((dfL w c).length:Int):=by
 have:=ZkH w c (by omega)
 rwa[hw]at this
theorem df_mem{w c:List Int}{i:Nat} :i∈dfL w c↔i<15∧w.getD i 0≠c.getD i 0:=by
 unfold dfL;rw[List.mem_filter,List.mem_range,decide_eq_true_eq]
theorem Zkn(w c:List Int):(dfL w c).Nodup:=List.nodup_range.sublist List.filter_sublist
theorem ZMK{w c:List Int}{l:List Nat}(h:∀i,i<15→w.getD i 0≠c.getD i 0→i∈l):(dfL w c).length≤l.length:=
 (Zkn w c).length_le_of_subset fun i hi=>h i (df_mem.1 hi).1 (df_mem.1 hi).2
theorem Zs8{w c:List Int}(hw:ZaM w 0 15=0)(hc:ZaM c 0 15=0)(i:Nat):wfn w i=wfn c i↔w.getD i 0=c.getD i 0:=by
 have a:=of_decide_eq_true (Zjl hw i)
 have b:=of_decide_eq_true (Zjl hc i)
 unfold wfn;omega
theorem Zxs{h:Int}{c:List Int}(hc:c.length=15)(hi:isW h c=true){j:Nat}(hj:j<2*h.toNat):Zrs (j+1) (wfn c)=0:=(Zye hc).1 hi j hj
theorem Zqv{h:Int}{w c d:List Int}(hw:okw w=true)(hc:okw c=true)(hd:okw d=true)(ic:isW h c=true)(id:isW h d=true)(dc:Zbv w c≤h)(dd:Zbv w d≤h):c=d:=by
 obtain⟨w1,w2⟩:=okw_iff.1 hw
 obtain⟨c1,c2⟩:=okw_iff.1 hc
 obtain⟨d1,d2⟩:=okw_iff.1 hd
 rw[ZkY w1 c1]at dc
 rw[ZkY w1 d1]at dd
 have hl:(dfL c d).length≤2*h.toNat:=by
  have:=ZMK (w:=c) (c:=d) (l:=dfL w c++dfL w d) (fun i hi hne=>by
   rw[List.mem_append,df_mem,df_mem]
   by_cases q:w.getD i 0=c.getD i 0
   ·exact Or.inr ⟨hi,fun a=>hne (q.symm.trans a)⟩
   ·exact Or.inl ⟨hi,q⟩)
  rw[List.length_append]at this
  omega
 have z:=ZwA (m:=2*h.toNat) (c:=fun i=>wfn c i ^^^ wfn d i) (fun i=>Zcc (Zd6 c2 i) (Zd6 d2 i)) (dfL c d) (fun p hp=>(df_mem.1 hp).1) (Zkn c d) hl (fun i hi hn=>by
  have:c.getD i 0=d.getD i 0:=Decidable.byContradiction fun a=>hn (df_mem.2 ⟨hi,a⟩)
  show wfn c i ^^^ wfn d i=0
  rw[(Zs8 c2 d2 i).2 this,Nat.xor_self]) (fun j hj=>by
  unfold Zrs
  rw[Zs6 (Zd6 c2) (Zd6 d2) (Zir _)]
  have a:=Zxs c1 ic hj
  have b:=Zxs d1 id hj
  unfold Zrs at a b
  rw[a,b,Nat.xor_self])
 refine List.ext_getElem (by omega) fun i h1 h2=>?_
 have:=(Zs8 c2 d2 i).1 (Zpd (z i (by omega)))
 rwa[List.getD_eq_getElem?_getD,List.getElem?_eq_getElem h1,List.getD_eq_getElem?_getD,List.getElem?_eq_getElem h2]at this
theorem Zwm{h:Int}{w e:List Int}(hg:fiG w h e=true):Zbv w (fiW h w e)≤e.length:=by
 obtain⟨g1,g2,g3,g4,g5⟩:=ZjZ hg
 obtain⟨w1,w2⟩:=okw_iff.1 g1
 obtain⟨f1,f2⟩:=okw_iff.1 (Zrh hg)
 rw[ZkY w1 f1]
 have hp:=ZnG g4
 have:=ZMK (w:=w) (c:=fiW h w e) (l:=e.map Int.toNat) (fun i hi hne=>by
  by_cases hm:(i:Int)∈e
  ·exact List.mem_map.2 ⟨_,hm,rfl⟩
  ·exfalso
   apply hne
   have hx:∀x∈e,x≠(i:Int):=fun x hx a=>hm (a▸hx)
   unfold fiW
   split
   ·rw[Zri e w i hp,if_neg hm]
   ·rw[ZDn e _ _ i hp hx,Zri e w i hp,if_neg hm])
 rw[List.length_map]at this
 omega
def dfI(w c:List Int):List Int:=(dfL w c).map fun i:Nat=>(i:Int)
theorem ZGc{h:Int}{w c:List Int}(hw:okw w=true)(hc:okw c=true)(ic:isW h c=true)(dc:Zbv w c≤h):poO (syL w (2*h.toNat)) (dfL w c).length=true∧ZmB (syL w (2*h.toNat)) (dfL w c).length=dfI w c:=by
 obtain⟨w1,w2⟩:=okw_iff.1 hw
 obtain⟨c1,c2⟩:=okw_iff.1 hc
 rw[ZkY w1 c1]at dc
 have hE:El fun k=>wfn w ((dfL w c).getD k 0) ^^^ wfn c ((dfL w c).getD k 0):=fun k=>Zcc (Zd6 w2 _) (Zd6 c2 _)
 have hx:El fun i=>wfn w i ^^^ wfn c i:=fun k=>Zcc (Zd6 w2 _) (Zd6 c2 _)
 have hl:=ZeT w (2*h.toNat)
 have r:=ZHw (s:=syL w (2*h.toNat)) (t:=(dfL w c).length) hE (fun k hk a=>by
  have m:=df_mem.1 (Zbq (xs:=dfL w c) (d:=0) hk)
  exact m.2 ((Zs8 w2 c2 _).1 (Zpd a))) (Zkn w c) rfl (fun p hp=>(df_mem.1 hp).1) (fun m hm=>by
  rw[hl]at hm
  have e:(syL w (2*h.toNat)).getD m 0=syI w (m+1):=by
   unfold syL
   rw[List.getD_eq_getElem?_getD,List.getElem?_map,List.getElem?_range hm];rfl
  rw[e,Zkr w1]
  congr 1
  have a:=Zxs c1 ic hm
  have b:=Zs6 (Zd6 w2) (Zd6 c2) (Zir (m+1)) 15
  unfold Zrs at a
  rw[a,Nat.xor_zero]at b
  unfold Zrs
  rw[←b,Zqx _ (Zir (m+1)) (dfL w c) (fun p hp=>(df_mem.1 hp).1) (Zkn w c) _ hx (fun i hi hn=>by
   have:w.getD i 0=c.getD i 0:=Decidable.byContradiction fun a=>hn (df_mem.2 ⟨hi,a⟩)
   show wfn w i ^^^ wfn c i=0
   rw[(Zs8 w2 c2 i).2 this,Nat.xor_self])]
  exact ZaR _ (fun _ _=>rfl) (fun k _=>by rw[Zs7])) (ZDz w2 _) (by omega)
 refine⟨r.1,r.2.trans ?_⟩
 unfold dfI
 congr 1
 unfold dfL
 refine List.filter_congr fun i hi=>?_
 rw[Bool.eq_iff_iff,decide_eq_true_eq,decide_eq_true_eq]
 exact df_mem.trans ⟨fun a=>a.2,fun a=>⟨List.mem_range.1 hi,a⟩⟩
theorem Zya{w c:List Int} :∀p:Nat,p<15→(p:Int)∉dfI w c→w.getD p 0=c.getD p 0:=fun p hp hn=>
 Decidable.byContradiction fun a=>hn (List.mem_map.2 ⟨p,df_mem.2 ⟨hp,a⟩,rfl⟩)
theorem Zpn{h:Int}{w:List Int}(hw:okw w=true)(hh:hfB h=true):∀(k u:Nat) (x:List Int),u+k≤h.toNat+1→deR h w k u=some x→okw x=true∧isW h x=true∧Zbv w x≤h
 |0,_,_,_,e=>by cases e
 |k+1,u,x,hk,e=>by
  have h2:=of_decide_eq_true hh
  rw[deR]at e
  split at e
  ·rename_i hc
   have hg:=ZHJ (u:=u) hw hh (by omega) hc.1
   have hv:=ZUq hc.2
   rw[hv]at e
   cases e
   have n:=Zwm hg
   have hl:(ZmB (syL w (2*h.toNat)) u).length=u:=by
    have o:=hc.1
    unfold poO at o
    unfold ZmB
    cases hq:poC (syL w (2*h.toNat)) u with
    |none=>rw[hq]at o;cases o
    |some c=>rw[hq]at o;exact of_decide_eq_true o
   refine⟨Zrh hg,(Zx6 hg).symm.trans hc.2,?_⟩
   rw[hl]at n
   omega
  ·exact Zpn hw hh k (u+1) x (by omega) e
theorem Zyl{h:Int}{w c:List Int}(hw:okw w=true)(hh:hfB h=true)(hc:okw c=true)(ic:isW h c=true)(dc:Zbv w c≤h):∀(k u:Nat),u≤(dfL w c).length→(dfL w c).length<u+k→deR h w k u≠none
 |0,u,h1,h2,_=>by omega
 |k+1,u,h1,h2,e=>by
  rw[deR]at e
  split at e
  ·cases e
  ·rename_i hn
   by_cases hu:u=(dfL w c).length
   ·subst hu
    obtain⟨p1,p2⟩:=ZGc hw hc ic dc
    have h3:=of_decide_eq_true hh
    have hd:=ZkY (okw_iff.1 hw).1 (okw_iff.1 hc).1
    have hg:=ZHJ hw hh (by omega) p1
    refine hn ⟨p1,?_⟩
    rw[Zx6 hg,p2]
    rw[p2]at hg
    rw[Zyc hg hc ic Zya]
    exact ic
   ·exact Zyl hw hh hc ic dc k (u+1) (by omega) (by omega) e
theorem ZxV{h:Int}{w:List Int}(hw:okw w=true)(hh:hfB h=true)(x:List Int):deO h w=some x↔okw x=true∧isW h x=true∧Zbv w x≤h:=by
 unfold deO
 constructor
 ·exact Zpn hw hh _ _ x (by omega)
 ·rintro⟨a,b,c⟩
  have h3:=of_decide_eq_true hh
  have hd:=ZkY (okw_iff.1 hw).1 (okw_iff.1 a).1
  obtain⟨y,hy⟩:=Option.ne_none_iff_exists'.1 (Zyl hw hh a b c (h.toNat+1) 0 (by omega) (by omega))
  obtain⟨y1,y2,y3⟩:=Zpn hw hh _ _ y (by omega) hy
  have:=Zqv hw a y1 b y2 c y3
  subst this
  exact hy
end Go.Proofs.Ytklbmkllepkjcaa
/- The reference's decoding finds what the program's finds. No condition. -/
namespace Go.Proofs.Ytklbmkllepkjcaa
theorem Zt1:∀(l:List Nat) (f:Nat),l.Pairwise (· < ·)→(∀i∈l,f≤i∧i<15)→(l.map fun i:Nat=>(i:Int))∈ZaI l.length f
 |[],f,_,_=>by rw[List.map_nil,List.length_nil,ZaI];exact List.mem_cons_self
 |x::l,f,hp,hb=>by
  have b:=hb x List.mem_cons_self
  have hp':=List.pairwise_cons.1 hp
  have ih:=Zt1 l (x+1) hp'.2 (fun i hi=>⟨hp'.1 i hi,(hb i (List.mem_cons_of_mem _ hi)).2⟩)
  rw[List.map_cons,List.length_cons,ZaI]
  refine List.mem_flatMap.2 ⟨x-f,List.mem_range.2 (by omega),List.mem_map.2 ⟨l.map fun i:Nat=>(i:Int),?_,?_⟩⟩
  ·rw[show f+(x-f)+1=x+1 by omega];exact ih
  ·rw[show f+(x-f)=x by omega]
theorem ZBR(w c:List Int):dfI w c∈ZaI (dfL w c).length 0:=
 Zt1 _ 0 (List.pairwise_lt_range.sublist List.filter_sublist) (fun _ hi=>⟨Nat.zero_le _,(df_mem.1 hi).1⟩)
theorem ZtL{h:Int}{w:List Int} :∀ {ls:List (List Int)} {x:List Int},rd1 h w ls=some x→∃l∈ls,x=fiW h w l∧isW h x=true
 |[],_,e=>by cases e
 |l::ls,x,e=>by
  rw[rd1]at e
  split at e
  ·rename_i hq
   cases e
   exact⟨l,List.mem_cons_self,rfl,hq⟩
  ·obtain⟨a,b,c⟩:=ZtL e
   exact⟨a,List.mem_cons_of_mem _ b,c⟩
theorem ZtW{h:Int}{w:List Int} :∀ {ls:List (List Int)},rd1 h w ls=none→∀l∈ls,isW h (fiW h w l)=false
 |[],_,l,hl=>by cases hl
 |a::ls,e,l,hl=>by
  rw[rd1]at e
  split at e
  ·cases e
  ·rename_i hq
   rcases List.mem_cons.1 hl with q |q
   ·subst q;exact Bool.eq_false_iff.2 hq
   ·exact ZtW e l q
theorem Zo3{h:Int}{w:List Int}(hw:okw w=true)(hh:hfB h=true):∀(k u:Nat) (x:List Int) (z:Nat),u+k≤h.toNat+1→rdR h w k u=some (x,z)→okw x=true∧isW h x=true∧Zbv w x≤z∧u≤z∧(z:Int)≤h
 |0,_,_,_,_,e=>by cases e
 |k+1,u,x,z,hk,e=>by
  have h2:=of_decide_eq_true hh
  rw[rdR]at e
  split at e
  ·rename_i y hy
   cases e
   obtain⟨l,l1,rfl,l3⟩:=ZtL hy
   have hg:=ZrO hw hh (show u≤2*h.toNat by omega) l1
   have n:=Zwm hg
   rw[(Zjs u 0).2 l l1]at n
   exact⟨Zrh hg,l3,n,Nat.le_refl _,by omega⟩
  ·have:=Zo3 hw hh k (u+1) x z (by omega) e
   exact⟨this.1,this.2.1,this.2.2.1,by omega,this.2.2.2.2⟩
theorem ZxB{h:Int}{w c:List Int}(hw:okw w=true)(hh:hfB h=true)(hc:okw c=true)(ic:isW h c=true)(dc:Zbv w c≤h):∀(k u:Nat),u+k≤h.toNat+1→u≤(dfL w c).length→(dfL w c).length<u+k→∃x z,rdR h w k u=some (x,z)∧z≤(dfL w c).length
 |0,u,_,h1,h2=>by omega
 |k+1,u,h0,h1,h2=>by
  have h3:=of_decide_eq_true hh
  rw[rdR]
  cases hq:rd1 h w (ZaI u 0)with
  |some x=>exact⟨x,u,rfl,h1⟩
  |none=>
   by_cases hu:u=(dfL w c).length
   ·exfalso
    subst hu
    have m:=ZBR w c
    have hg:=ZrO hw hh (show (dfL w c).length≤2*h.toNat by omega) m
    have:=ZtW hq _ m
    rw[Zyc hg hc ic Zya,ic]at this
    cases this
   ·exact ZxB hw hh hc ic dc k (u+1) (by omega) (by omega) (by omega)
theorem ZNR{h:Int}{w:List Int}(hw:okw w=true)(hh:hfB h=true):rdO h w=(deO h w).map fun x=>(x,(Zbv w x).toNat):=by
 have h3:=of_decide_eq_true hh
 cases hd:deO h w with
 |none=>
  cases hr:rdO h w with
  |none=>rfl
  |some p=>
   obtain⟨x,z⟩:=p
   unfold rdO at hr
   have s:=Zo3 hw hh _ _ x z (by omega) hr
   rw[(ZxV hw hh x).2 ⟨s.1,s.2.1,by omega⟩]at hd
   cases hd
 |some c=>
  obtain⟨c1,c2,c3⟩:=(ZxV hw hh c).1 hd
  have hl:=ZkY (okw_iff.1 hw).1 (okw_iff.1 c1).1
  obtain⟨x,z,r1,r2⟩:=ZxB hw hh c1 c2 c3 (h.toNat+1) 0 (by omega) (by omega) (by omega)
  have s:=Zo3 hw hh _ _ x z (by omega) r1
  have:=Zqv hw c1 s.1 c2 s.2.1 c3 (by omega)
  subst this
  have hr:rdO h w=some (c,z):=by unfold rdO;exact r1
  rw[hr]
  show some (c,z)=some (c,(Zbv w c).toNat)
  rw[show (Zbv w c).toNat=z by omega]
theorem ZEl{h:Int}{w:List Int}(hw:okw w=true)(hh:hfB h=true):(rdO h w).isSome=(deO h w).isSome:=by rw[ZNR hw hh,Option.isSome_map]
theorem ZIY{h:Int}{w:List Int}(hw:okw w=true)(hh:hfB h=true)(hs:(deO h w).isSome=true):rdV h w=deV h w∧rdN h w=deN h w:=by
 obtain⟨x,hx⟩:=Option.isSome_iff_exists.1 hs
 have hr:=ZNR hw hh
 rw[hx]at hr
 have d:=(Zpu w x).1
 unfold rdV rdN deV deN
 rw[hr,hx]
 exact⟨rfl,by show((Zbv w x).toNat:Int)=Zbv w x;omega⟩
end Go.Proofs.Ytklbmkllepkjcaa
/- The encoded word: a word of the code, the data in front. No condition. -/
namespace Go.Proofs.Ytklbmkllepkjcaa
theorem ZHL{h:Int}{w:List Int}(hw:okw w=true)(hh:hfB h=true)(hs:(deO h w).isSome=true):okw (deV h w)=true∧isW h (deV h w)=true∧deN h w=Zbv w (deV h w)∧deN h w≤h:=by
 obtain⟨x,hx⟩:=Option.isSome_iff_exists.1 hs
 obtain⟨a,b,c⟩:=(ZxV hw hh x).1 hx
 unfold deV deN
 rw[hx]
 exact⟨a,b,rfl,c⟩
end Go.Proofs.Ytklbmkllepkjcaa
