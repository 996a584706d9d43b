/- Paths of functions, printed by the explorer (Gx). No condition. -/
import Derived.Test.YtkeoeooghhjibaaGreatDoorSz5
import Derived.KernelRfl
namespace Go.Proofs.YtkeoeooghhjibaaGreatDoor
set_option maxRecDepth 100000
set_option linter.unusedVariables false
def ZAF(s:List UInt8):AFrame:={ fn:=62,N:=134,env:=[(0,AV.str s)],todo:=[.code a62.code],defs:=[],rnd:=none,ret:=false,res:=[ARes.cell 2 true 3,ARes.tmp 3] }
def ZJE(s:List UInt8):List AFrame:=[(ZAF s)]
theorem ZyQ(s:List UInt8):ZaB tab 62 [AV.str s]=some (ZAF s):=rfl
def Ziq(x0 x1:List AV)(n2:Int):List AFrame:=[{ fn:=62,N:=134,env:=[(2,AV.ptr 62003 0 0 0),(4,AV.ptr 62005 0 0 0),(5,AV.row 62025 0),(6,AV.ptr 62007 0 0 0),(7,AV.int .i64 n2)],todo:=.code (ACode.gh [] ZEk)::ZFA,defs:=[],rnd:=none,ret:=false,res:=[ARes.cell 2 true 3,ARes.tmp 3] }]
def Zg6(x0 x1:List AV)(n2:Int):Zaa:=[(62003,{ base:=0,blks:=[Blk.row 26 3 (Row.gen [AV.agg (Row.gen [AV.nils,AV.nils,AV.nils])])] }),(62005,{ base:=0,blks:=[Blk.row 26 3 (Row.gen [AV.agg (Row.gen [AV.nils,AV.nils,AV.nils])])] }),(62007,{ base:=0,blks:=[Blk.row 26 3 (Row.gen [AV.agg (Row.gen [AV.row 62033 0,AV.nils,AV.nils])])] }),(62025,{ base:=0,blks:=[Blk.row 9 1 (Row.big .str x0)] }),(62033,{ base:=0,blks:=[Blk.row 9 1 (Row.big .str x1)] })]
abbrev ZkJ(x0 x1:List AV)(n2:Int):List AFrame×Zaa:=(Ziq x0 x1 n2,Zg6 x0 x1 n2)
def Zjt(x0 x1 x3:List AV):List AFrame:=[{ fn:=62,N:=134,env:=[(2,AV.ptr 62003 0 0 0),(4,AV.ptr 62005 0 0 0),(5,AV.row 62025 0),(6,AV.ptr 62007 0 0 0),(8,AV.row 62052 0),(9,AV.int .i64 0)],todo:=.code (ACode.gh [] Zzf)::ZDD,defs:=[],rnd:=none,ret:=false,res:=[ARes.cell 2 true 3,ARes.tmp 3] }]
def ZgN(x0 x1 x3:List AV):Zaa:=[(62003,{ base:=0,blks:=[Blk.row 26 3 (Row.gen [AV.agg (Row.gen [AV.nils,AV.nils,AV.nils])])] }),(62005,{ base:=0,blks:=[Blk.row 26 3 (Row.gen [AV.agg (Row.gen [AV.nils,AV.nils,AV.nils])])] }),(62007,{ base:=0,blks:=[Blk.row 26 3 (Row.gen [AV.agg (Row.gen [AV.row 62033 0,AV.nils,AV.nils])])] }),(62025,{ base:=0,blks:=[Blk.row 9 1 (Row.big .str x0)] }),(62033,{ base:=0,blks:=[Blk.row 9 1 (Row.big .str x1)] }),(62052,{ base:=0,blks:=[Blk.row 9 1 (Row.big .str x3)] })]
abbrev Zp5(x0 x1 x3:List AV):List AFrame×Zaa:=(Zjt x0 x1 x3,ZgN x0 x1 x3)
def Zjb(x0 x1 x3:List AV)(n4:Int)(x5:List AV):List AFrame:=[{ fn:=62,N:=134,env:=[(2,AV.ptr 62003 0 0 0),(4,AV.ptr 62005 0 0 0),(5,AV.row 62025 0),(6,AV.ptr 62007 0 0 0),(8,AV.row 62052 0),(9,AV.int .i64 n4)],todo:=.code (ACode.gh [] Zzf)::ZDD,defs:=[],rnd:=none,ret:=false,res:=[ARes.cell 2 true 3,ARes.tmp 3] }]
def Zha(x0 x1 x3:List AV)(n4:Int)(x5:List AV):Zaa:=[(62003,{ base:=0,blks:=[Blk.row 26 3 (Row.gen [AV.agg (Row.gen [AV.nils,AV.nils,AV.nils])])] }),(62005,{ base:=0,blks:=[Blk.row 26 3 (Row.gen [AV.agg (Row.gen [AV.nils,AV.nils,AV.nils])])] }),(62007,{ base:=0,blks:=[Blk.row 26 3 (Row.gen [AV.agg (Row.gen [AV.row 62033 0,AV.row 62079 0,AV.nils])])] }),(62025,{ base:=0,blks:=[Blk.row 9 1 (Row.big .str x0)] }),(62033,{ base:=0,blks:=[Blk.row 9 1 (Row.big .str x1)] }),(62052,{ base:=0,blks:=[Blk.row 9 1 (Row.big .str x3)] }),(62079,{ base:=0,blks:=[Blk.row 88 2 (Row.big (.agg [.str, .int .i64]) x5)] })]
abbrev ZkH(x0 x1 x3:List AV)(n4:Int)(x5:List AV):List AFrame×Zaa:=(Zjb x0 x1 x3 n4 x5,Zha x0 x1 x3 n4 x5)
def ZiG(x0 x1 x5 x6:List AV):List AFrame:=[{ fn:=62,N:=134,env:=[(2,AV.ptr 62003 0 0 0),(4,AV.ptr 62005 0 0 0),(5,AV.row 62025 0),(6,AV.ptr 62007 0 0 0),(8,AV.row 62084 0),(13,AV.int .i64 0)],todo:=.code (ACode.gh [] ZzS)::ZCT,defs:=[],rnd:=none,ret:=false,res:=[ARes.cell 2 true 3,ARes.tmp 3] }]
def ZgG(x0 x1 x5 x6:List AV):Zaa:=[(62003,{ base:=0,blks:=[Blk.row 26 3 (Row.gen [AV.agg (Row.gen [AV.nils,AV.nils,AV.nils])])] }),(62005,{ base:=0,blks:=[Blk.row 26 3 (Row.gen [AV.agg (Row.gen [AV.nils,AV.nils,AV.nils])])] }),(62007,{ base:=0,blks:=[Blk.row 26 3 (Row.gen [AV.agg (Row.gen [AV.row 62033 0,AV.row 62079 0,AV.nils])])] }),(62025,{ base:=0,blks:=[Blk.row 9 1 (Row.big .str x0)] }),(62033,{ base:=0,blks:=[Blk.row 9 1 (Row.big .str x1)] }),(62079,{ base:=0,blks:=[Blk.row 88 2 (Row.big (.agg [.str, .int .i64]) x5)] }),(62084,{ base:=0,blks:=[Blk.row 9 1 (Row.big .str x6)] })]
abbrev Zp7(x0 x1 x5 x6:List AV):List AFrame×Zaa:=(ZiG x0 x1 x5 x6,ZgG x0 x1 x5 x6)
def ZiE(x0 x1 x5 x6:List AV)(n7:Int)(x8:List AV):List AFrame:=[{ fn:=62,N:=134,env:=[(2,AV.ptr 62003 0 0 0),(4,AV.ptr 62005 0 0 0),(5,AV.row 62025 0),(6,AV.ptr 62007 0 0 0),(8,AV.row 62084 0),(13,AV.int .i64 n7)],todo:=.code (ACode.gh [] ZzS)::ZCT,defs:=[],rnd:=none,ret:=false,res:=[ARes.cell 2 true 3,ARes.tmp 3] }]
def Zgu(x0 x1 x5 x6:List AV)(n7:Int)(x8:List AV):Zaa:=[(62003,{ base:=0,blks:=[Blk.row 26 3 (Row.gen [AV.agg (Row.gen [AV.nils,AV.nils,AV.nils])])] }),(62005,{ base:=0,blks:=[Blk.row 26 3 (Row.gen [AV.agg (Row.gen [AV.nils,AV.nils,AV.nils])])] }),(62007,{ base:=0,blks:=[Blk.row 26 3 (Row.gen [AV.agg (Row.gen [AV.row 62033 0,AV.row 62079 0,AV.row 62126 0])])] }),(62025,{ base:=0,blks:=[Blk.row 9 1 (Row.big .str x0)] }),(62033,{ base:=0,blks:=[Blk.row 9 1 (Row.big .str x1)] }),(62079,{ base:=0,blks:=[Blk.row 88 2 (Row.big (.agg [.str, .int .i64]) x5)] }),(62084,{ base:=0,blks:=[Blk.row 9 1 (Row.big .str x6)] }),(62126,{ base:=0,blks:=[Blk.row 131 5 (Row.big (.agg [.str, .int .i64, .int .i64, .int .i64, .int .i64]) x8)] })]
abbrev Zk7(x0 x1 x5 x6:List AV)(n7:Int)(x8:List AV):List AFrame×Zaa:=(ZiE x0 x1 x5 x6 n7 x8,Zgu x0 x1 x5 x6 n7 x8)
def ZtA(A:Ar)(K:KT)(F:FT)(s:List UInt8):Prop:=bB (A.lt 60000 (A.int (A.lenS s))) (F (AV.tup [AV.agg (Row.gen [AV.nils,AV.nils,AV.nils]),AV.int .i64 8]) (none)) (rB [decide (List.length s≤1000000)] (bB (A.not (A.eq (A.int (A.lenA (Zay s 59))) 3)) (F (AV.tup [AV.agg (Row.gen [AV.nils,AV.nils,AV.nils]),AV.int .i64 7]) (none)) (rB [decide (List.length (AV.toS (A.nthA (Zay s 59) (A.nat 0)))≤1000000),Zae (Nat.blt (A.nat 0) (A.lenA (Zay s 59))) true,Zae (A.le 0 0) (Nat.blt (A.nat 0) (A.lenA (Zay s 59)))] (K (ZkJ (Zay s 59) (Zay (AV.toS (A.nthA (Zay s 59) (A.nat 0))) 32) (0))))))
theorem ZG1{A:Ar}{K:KT}{F:FT}{M:MT}{s:List UInt8} :ZaG A tab Lt7 62 K F M (.run 18 (.tf (.run 7 (.fn)) (.run 14 (.tf (.run 7 (.fn)) (.run 19 (.hd)))))) (ZJE s) []=ZtA A K F s:=by kernel_rfl
def ZeO(A:Ar)(K:KT)(F:FT)(x0 x1:List AV)(n2:Int):Prop:=bB (A.lt n2 (A.int (A.lenA x1))) (rB [Zae (Nat.blt (A.nat n2) (A.lenA x1)) true,Zae (A.le 0 n2) (Nat.blt (A.nat n2) (A.lenA x1))] (bB (A.eqS (AV.toS (A.nthA x1 (A.nat n2))) []) (F (AV.tup [AV.agg (Row.gen [AV.nils,AV.nils,AV.nils]),AV.int .i64 7]) (none)) (rB [A.inR .i64 (A.add n2 1)] (K (ZkJ (x0) (x1) (A.add n2 1)))))) (rB [decide (List.length (AV.toS (A.nthA x0 (A.nat 1)))≤1000000),Zae (Nat.blt (A.nat 1) (A.lenA x0)) true,Zae (A.le 0 1) (Nat.blt (A.nat 1) (A.lenA x0))] (K (Zp5 (x0) (x1) (Zay (AV.toS (A.nthA x0 (A.nat 1))) 44))))
theorem Zkp{A:Ar}{K:KT}{F:FT}{M:MT}{x0 x1:List AV}{n2:Int} :ZaG A tab Lt7 62 K F M (.run 10 (.tf (.run 12 (.tf (.run 7 (.fn)) (.run 9 (.hd)))) (.run 17 (.hd)))) (Ziq x0 x1 n2) (Zg6 x0 x1 n2)=ZeO A K F x0 x1 n2:=by kernel_rfl
def ZgZ(A:Ar)(K:KT)(F:FT)(x0 x1 x3:List AV):Prop:=rB [A.lt 0 (A.int (A.lenA x3))] (rB [decide (List.length (AV.toS (A.nthA x3 (A.nat 0)))≤1000000∧(2:Int)≤2),Zae (Nat.blt (A.nat 0) (A.lenA x3)) true,Zae (A.le 0 0) (Nat.blt (A.nat 0) (A.lenA x3))] (bB (A.not (wdB (Zay (AV.toS (A.nthA x3 (A.nat 0))) 32) 2)) (F (AV.tup [AV.agg (Row.gen [AV.nils,AV.nils,AV.nils]),AV.int .i64 7]) (none)) (rB [A.inR .i64 (A.add 0 1),Zae (Nat.ble (A.lenA [AV.agg (Row.gen [.str (wdS (Zay (AV.toS (A.nthA x3 (A.nat 0))) 32) 2), .int .i64 (A.nth (wdI (Zay (AV.toS (A.nthA x3 (A.nat 0))) 32) 2) (A.nat 0))])]) 4294967296) (Nat.blt 0 (A.lenA [AV.agg (Row.gen [.str (wdS (Zay (AV.toS (A.nthA x3 (A.nat 0))) 32) 2), .int .i64 (A.nth (wdI (Zay (AV.toS (A.nthA x3 (A.nat 0))) 32) 2) (A.nat 0))])])),List.all [AV.agg (Row.gen [.str (wdS (Zay (AV.toS (A.nthA x3 (A.nat 0))) 32) 2), .int .i64 (A.nth (wdI (Zay (AV.toS (A.nthA x3 (A.nat 0))) 32) 2) (A.nat 0))])] fun x=>AV.bx x&&Nat.beq (Zab A x) 2,Zae (Zae (A.le 0 0) (Nat.blt (A.nat 0) (A.len (wdI (Zay (AV.toS (A.nthA x3 (A.nat 0))) 32) 2)))) true] (K (ZkH (x0) (x1) (x3) (A.add 0 1) ([AV.agg (Row.gen [.str (wdS (Zay (AV.toS (A.nthA x3 (A.nat 0))) 32) 2), .int .i64 (A.nth (wdI (Zay (AV.toS (A.nthA x3 (A.nat 0))) 32) 2) (A.nat 0))])]))))))
theorem ZpR{A:Ar}{K:KT}{F:FT}{M:MT}{x0 x1 x3:List AV} :ZaG A tab Lt7 62 K F M (.run 9 (.ty (.run 25 (.tf (.run 7 (.fn)) (.run 10 (.hd)))))) (Zjt x0 x1 x3) (ZgN x0 x1 x3)=ZgZ A K F x0 x1 x3:=by kernel_rfl
def ZeI(A:Ar)(K:KT)(F:FT)(x0 x1 x3:List AV)(n4:Int)(x5:List AV):Prop:=bB (A.lt n4 (A.int (A.lenA x3))) (rB [decide (List.length (AV.toS (A.nthA x3 (A.nat n4)))≤1000000∧(2:Int)≤2),Zae (Nat.blt (A.nat n4) (A.lenA x3)) true,Zae (A.le 0 n4) (Nat.blt (A.nat n4) (A.lenA x3))] (bB (A.not (wdB (Zay (AV.toS (A.nthA x3 (A.nat n4))) 32) 2)) (F (AV.tup [AV.agg (Row.gen [AV.nils,AV.nils,AV.nils]),AV.int .i64 7]) (none)) (rB [A.inR .i64 (A.add n4 1),Nat.ble (A.lenA x5+A.lenA [AV.agg (Row.gen [.str (wdS (Zay (AV.toS (A.nthA x3 (A.nat n4))) 32) 2), .int .i64 (A.nth (wdI (Zay (AV.toS (A.nthA x3 (A.nat n4))) 32) 2) (A.nat 0))])]) 4294967296,List.all [AV.agg (Row.gen [.str (wdS (Zay (AV.toS (A.nthA x3 (A.nat n4))) 32) 2), .int .i64 (A.nth (wdI (Zay (AV.toS (A.nthA x3 (A.nat n4))) 32) 2) (A.nat 0))])] fun x=>AV.bx x&&Nat.beq (Zab A x) 2,Zae (Zae (A.le 0 0) (Nat.blt (A.nat 0) (A.len (wdI (Zay (AV.toS (A.nthA x3 (A.nat n4))) 32) 2)))) true] (K (ZkH (x0) (x1) (x3) (A.add n4 1) (A.appA x5 [AV.agg (Row.gen [.str (wdS (Zay (AV.toS (A.nthA x3 (A.nat n4))) 32) 2), .int .i64 (A.nth (wdI (Zay (AV.toS (A.nthA x3 (A.nat n4))) 32) 2) (A.nat 0))])])))))) (rB [decide (List.length (AV.toS (A.nthA x0 (A.nat 2)))≤1000000),Zae (Nat.blt (A.nat 2) (A.lenA x0)) true,Zae (A.le 0 2) (Nat.blt (A.nat 2) (A.lenA x0))] (K (Zp7 (x0) (x1) (x5) (Zay (AV.toS (A.nthA x0 (A.nat 2))) 44))))
theorem ZkT{A:Ar}{K:KT}{F:FT}{M:MT}{x0 x1 x3:List AV}{n4:Int}{x5:List AV} :ZaG A tab Lt7 62 K F M (.run 9 (.tf (.run 25 (.tf (.run 7 (.fn)) (.run 10 (.hd)))) (.run 17 (.hd)))) (Zjb x0 x1 x3 n4 x5) (Zha x0 x1 x3 n4 x5)=ZeI A K F x0 x1 x3 n4 x5:=by kernel_rfl
def ZeR(A:Ar)(K:KT)(F:FT)(x0 x1 x5 x6:List AV):Prop:=rB [A.lt 0 (A.int (A.lenA x6))] (rB [Zae (A.le 0 2) (Nat.blt (A.nat 2) (A.lenA x0))] (rB [Zae (Nat.blt (A.nat 2) (A.lenA x0)) true] (bB (A.not (A.eqS (AV.toS (A.nthA x0 (A.nat 2))) [])) (rB [decide (List.length (AV.toS (A.nthA x6 (A.nat 0)))≤1000000∧(2:Int)≤5),Zae (Nat.blt (A.nat 0) (A.lenA x6)) true,Zae (A.le 0 0) (Nat.blt (A.nat 0) (A.lenA x6))] (bB (A.not (wdB (Zay (AV.toS (A.nthA x6 (A.nat 0))) 32) 5)) (F (AV.tup [AV.agg (Row.gen [AV.nils,AV.nils,AV.nils]),AV.int .i64 7]) (none)) (rB [A.inR .i64 (A.add 0 1),Zae (Nat.ble (A.lenA [AV.agg (Row.gen [.str (wdS (Zay (AV.toS (A.nthA x6 (A.nat 0))) 32) 5), .int .i64 (A.nth (wdI (Zay (AV.toS (A.nthA x6 (A.nat 0))) 32) 5) (A.nat 0)), .int .i64 (A.nth (wdI (Zay (AV.toS (A.nthA x6 (A.nat 0))) 32) 5) (A.nat 1)), .int .i64 (A.nth (wdI (Zay (AV.toS (A.nthA x6 (A.nat 0))) 32) 5) (A.nat 2)), .int .i64 (A.nth (wdI (Zay (AV.toS (A.nthA x6 (A.nat 0))) 32) 5) (A.nat 3))])]) 4294967296) (Nat.blt 0 (A.lenA [AV.agg (Row.gen [.str (wdS (Zay (AV.toS (A.nthA x6 (A.nat 0))) 32) 5), .int .i64 (A.nth (wdI (Zay (AV.toS (A.nthA x6 (A.nat 0))) 32) 5) (A.nat 0)), .int .i64 (A.nth (wdI (Zay (AV.toS (A.nthA x6 (A.nat 0))) 32) 5) (A.nat 1)), .int .i64 (A.nth (wdI (Zay (AV.toS (A.nthA x6 (A.nat 0))) 32) 5) (A.nat 2)), .int .i64 (A.nth (wdI (Zay (AV.toS (A.nthA x6 (A.nat 0))) 32) 5) (A.nat 3))])])),List.all [AV.agg (Row.gen [.str (wdS (Zay (AV.toS (A.nthA x6 (A.nat 0))) 32) 5), .int .i64 (A.nth (wdI (Zay (AV.toS (A.nthA x6 (A.nat 0))) 32) 5) (A.nat 0)), .int .i64 (A.nth (wdI (Zay (AV.toS (A.nthA x6 (A.nat 0))) 32) 5) (A.nat 1)), .int .i64 (A.nth (wdI (Zay (AV.toS (A.nthA x6 (A.nat 0))) 32) 5) (A.nat 2)), .int .i64 (A.nth (wdI (Zay (AV.toS (A.nthA x6 (A.nat 0))) 32) 5) (A.nat 3))])] fun x=>AV.bx x&&Nat.beq (Zab A x) 5,Zae (Zae (A.le 0 3) (Nat.blt (A.nat 3) (A.len (wdI (Zay (AV.toS (A.nthA x6 (A.nat 0))) 32) 5)))) true,Zae (Zae (A.le 0 2) (Nat.blt (A.nat 2) (A.len (wdI (Zay (AV.toS (A.nthA x6 (A.nat 0))) 32) 5)))) true,Zae (Zae (A.le 0 1) (Nat.blt (A.nat 1) (A.len (wdI (Zay (AV.toS (A.nthA x6 (A.nat 0))) 32) 5)))) true,Zae (Zae (A.le 0 0) (Nat.blt (A.nat 0) (A.len (wdI (Zay (AV.toS (A.nthA x6 (A.nat 0))) 32) 5)))) true] (K (Zk7 (x0) (x1) (x5) (x6) (A.add 0 1) ([AV.agg (Row.gen [.str (wdS (Zay (AV.toS (A.nthA x6 (A.nat 0))) 32) 5), .int .i64 (A.nth (wdI (Zay (AV.toS (A.nthA x6 (A.nat 0))) 32) 5) (A.nat 0)), .int .i64 (A.nth (wdI (Zay (AV.toS (A.nthA x6 (A.nat 0))) 32) 5) (A.nat 1)), .int .i64 (A.nth (wdI (Zay (AV.toS (A.nthA x6 (A.nat 0))) 32) 5) (A.nat 2)), .int .i64 (A.nth (wdI (Zay (AV.toS (A.nthA x6 (A.nat 0))) 32) 5) (A.nat 3))])])))))) (rB [decide (ZaI x1 x5 []=true)] (bB (A.not (A.eq (Zaj x1 x5 []) 0)) (F (AV.tup [AV.agg (Row.gen [AV.nils,AV.nils,AV.nils]),AV.int .i64 (Zaj x1 x5 [])]) (none)) (F (AV.tup [AV.agg (Row.gen [.list (Row.big .str x1), .list (Row.big (.agg [.str, .int .i64]) x5),AV.nils]),AV.int .i64 0]) (none)))))))
theorem Zqu{A:Ar}{K:KT}{F:FT}{M:MT}{x0 x1 x5 x6:List AV} :ZaG A tab Lt7 62 K F M (.run 9 (.ty (.ty (.ty (.ty (.ty (.run 2 (.tf (.run 25 (.tf (.run 7 (.fn)) (.run 10 (.hd)))) (.run 13 (.tf (.run 8 (.fn)) (.run 8 (.fn)))))))))))) (ZiG x0 x1 x5 x6) (ZgG x0 x1 x5 x6)=ZeR A K F x0 x1 x5 x6:=by kernel_rfl
def ZeG(A:Ar)(K:KT)(F:FT)(x0 x1 x5 x6:List AV)(n7:Int)(x8:List AV):Prop:=bB (A.lt n7 (A.int (A.lenA x6))) (rB [Zae (A.le 0 2) (Nat.blt (A.nat 2) (A.lenA x0))] (rB [Zae (Nat.blt (A.nat 2) (A.lenA x0)) true] (bB (A.not (A.eqS (AV.toS (A.nthA x0 (A.nat 2))) [])) (rB [decide (List.length (AV.toS (A.nthA x6 (A.nat n7)))≤1000000∧(2:Int)≤5),Zae (Nat.blt (A.nat n7) (A.lenA x6)) true,Zae (A.le 0 n7) (Nat.blt (A.nat n7) (A.lenA x6))] (bB (A.not (wdB (Zay (AV.toS (A.nthA x6 (A.nat n7))) 32) 5)) (F (AV.tup [AV.agg (Row.gen [AV.nils,AV.nils,AV.nils]),AV.int .i64 7]) (none)) (rB [A.inR .i64 (A.add n7 1),Nat.ble (A.lenA x8+A.lenA [AV.agg (Row.gen [.str (wdS (Zay (AV.toS (A.nthA x6 (A.nat n7))) 32) 5), .int .i64 (A.nth (wdI (Zay (AV.toS (A.nthA x6 (A.nat n7))) 32) 5) (A.nat 0)), .int .i64 (A.nth (wdI (Zay (AV.toS (A.nthA x6 (A.nat n7))) 32) 5) (A.nat 1)), .int .i64 (A.nth (wdI (Zay (AV.toS (A.nthA x6 (A.nat n7))) 32) 5) (A.nat 2)), .int .i64 (A.nth (wdI (Zay (AV.toS (A.nthA x6 (A.nat n7))) 32) 5) (A.nat 3))])]) 4294967296,List.all [AV.agg (Row.gen [.str (wdS (Zay (AV.toS (A.nthA x6 (A.nat n7))) 32) 5), .int .i64 (A.nth (wdI (Zay (AV.toS (A.nthA x6 (A.nat n7))) 32) 5) (A.nat 0)), .int .i64 (A.nth (wdI (Zay (AV.toS (A.nthA x6 (A.nat n7))) 32) 5) (A.nat 1)), .int .i64 (A.nth (wdI (Zay (AV.toS (A.nthA x6 (A.nat n7))) 32) 5) (A.nat 2)), .int .i64 (A.nth (wdI (Zay (AV.toS (A.nthA x6 (A.nat n7))) 32) 5) (A.nat 3))])] fun x=>AV.bx x&&Nat.beq (Zab A x) 5,Zae (Zae (A.le 0 3) (Nat.blt (A.nat 3) (A.len (wdI (Zay (AV.toS (A.nthA x6 (A.nat n7))) 32) 5)))) true,Zae (Zae (A.le 0 2) (Nat.blt (A.nat 2) (A.len (wdI (Zay (AV.toS (A.nthA x6 (A.nat n7))) 32) 5)))) true,Zae (Zae (A.le 0 1) (Nat.blt (A.nat 1) (A.len (wdI (Zay (AV.toS (A.nthA x6 (A.nat n7))) 32) 5)))) true,Zae (Zae (A.le 0 0) (Nat.blt (A.nat 0) (A.len (wdI (Zay (AV.toS (A.nthA x6 (A.nat n7))) 32) 5)))) true] (K (Zk7 (x0) (x1) (x5) (x6) (A.add n7 1) (A.appA x8 [AV.agg (Row.gen [.str (wdS (Zay (AV.toS (A.nthA x6 (A.nat n7))) 32) 5), .int .i64 (A.nth (wdI (Zay (AV.toS (A.nthA x6 (A.nat n7))) 32) 5) (A.nat 0)), .int .i64 (A.nth (wdI (Zay (AV.toS (A.nthA x6 (A.nat n7))) 32) 5) (A.nat 1)), .int .i64 (A.nth (wdI (Zay (AV.toS (A.nthA x6 (A.nat n7))) 32) 5) (A.nat 2)), .int .i64 (A.nth (wdI (Zay (AV.toS (A.nthA x6 (A.nat n7))) 32) 5) (A.nat 3))])])))))) (rB [decide (ZaI x1 x5 x8=true)] (bB (A.not (A.eq (Zaj x1 x5 x8) 0)) (F (AV.tup [AV.agg (Row.gen [AV.nils,AV.nils,AV.nils]),AV.int .i64 (Zaj x1 x5 x8)]) (none)) (F (AV.tup [AV.agg (Row.gen [.list (Row.big .str x1), .list (Row.big (.agg [.str, .int .i64]) x5), .list (Row.big (.agg [.str, .int .i64, .int .i64, .int .i64, .int .i64]) x8)]),AV.int .i64 0]) (none))))))) (rB [decide (ZaI x1 x5 x8=true)] (bB (A.not (A.eq (Zaj x1 x5 x8) 0)) (F (AV.tup [AV.agg (Row.gen [AV.nils,AV.nils,AV.nils]),AV.int .i64 (Zaj x1 x5 x8)]) (none)) (F (AV.tup [AV.agg (Row.gen [.list (Row.big .str x1), .list (Row.big (.agg [.str, .int .i64]) x5), .list (Row.big (.agg [.str, .int .i64, .int .i64, .int .i64, .int .i64]) x8)]),AV.int .i64 0]) (none))))
theorem Zku{A:Ar}{K:KT}{F:FT}{M:MT}{x0 x1 x5 x6:List AV}{n7:Int}{x8:List AV} :ZaG A tab Lt7 62 K F M (.run 9 (.tf (.ty (.ty (.ty (.ty (.run 2 (.tf (.run 25 (.tf (.run 7 (.fn)) (.run 10 (.hd)))) (.run 13 (.tf (.run 8 (.fn)) (.run 8 (.fn)))))))))) (.fy (.fy (.fy (.fy (.run 2 (.fy (.run 13 (.tf (.run 8 (.fn)) (.run 8 (.fn)))))))))))) (ZiE x0 x1 x5 x6 n7 x8) (Zgu x0 x1 x5 x6 n7 x8)=ZeG A K F x0 x1 x5 x6 n7 x8:=by kernel_rfl
end Go.Proofs.YtkeoeooghhjibaaGreatDoor
/- Contracts as a list. No condition. -/
namespace Go.Proofs.YtkeoeooghhjibaaGreatDoor
def kOf(x:AV):AV:=.agg (.gen [.str (wdS (Zay x.toS 32) 2), .int .i64 ((wdI (Zay x.toS 32) 2).getD 0 0)])
def rOf(x:AV):AV:=.agg (.gen [.str (wdS (Zay x.toS 32) 5), .int .i64 ((wdI (Zay x.toS 32) 5).getD 0 0), .int .i64 ((wdI (Zay x.toS 32) 5).getD 1 0), .int .i64 ((wdI (Zay x.toS 32) 5).getD 2 0), .int .i64 ((wdI (Zay x.toS 32) 5).getD 3 0)])
def kGd(x:AV):Bool:=wdB (Zay x.toS 32) 2
def rGd(x:AV):Bool:=wdB (Zay x.toS 32) 5
def mGd(x:AV):Bool:=decide (x.toS≠[])
def pmP(s:List UInt8):List AV:=Zay s 59
def Zb9(p:List AV):List AV:=Zay (p.getD 0 .top).toS 32
def Zc0(p:List AV):List AV:=Zay (p.getD 1 .top).toS 44
def Zdq(p:List AV):List AV:=if(p.getD 2 .top).toS=[]then []else Zay (p.getD 2 .top).toS 44
def Zth(p:List AV):Bool:=(Zb9 p).all mGd&&((Zc0 p).all kGd&&(Zdq p).all rGd)
def pmE(s:List UInt8):Int:=if s.length≤60000 then(if ((pmP s).length:Int)=3 then(if Zth (pmP s)=true then Zaj (Zb9 (pmP s)) ((Zc0 (pmP s)).map kOf) ((Zdq (pmP s)).map rOf)else 7)else 7)else 8
def ZpB(e:Int)(ms ks rs:List AV):AV:=.tup [.agg (.gen [.list (.big .str (if e=0 then ms else [])), .list (.big (.agg [.str, .int .i64]) (if e=0 then ks else [])), .list (.big (.agg [.str, .int .i64, .int .i64, .int .i64, .int .i64]) (if e=0 then rs else []))]), .int .i64 e]
def pmR(s:List UInt8):AV:=ZpB (pmE s) (Zb9 (pmP s)) ((Zc0 (pmP s)).map kOf) ((Zdq (pmP s)).map rOf)
theorem ZqV{e e':Int}(ms ks rs:List AV)(h:e'=e)(he:e≠0):Wk (.tup [.agg (.gen [.nils, .nils, .nils]), .int .i64 e]) (ZpB e' ms ks rs):=by
 subst h
 unfold ZpB
 rw[if_neg he,if_neg he,if_neg he]
 exact Wk.tup' ⟨Wk.agg' ⟨.nil _ rfl, .nil _ rfl, .nil _ rfl,trivial⟩, .same _,trivial⟩
theorem okM{e':Int}(ms ks rs:List AV)(h:e'=0):ZpB e' ms ks rs=.tup [.agg (.gen [.list (.big .str ms), .list (.big (.agg [.str, .int .i64]) ks), .list (.big (.agg [.str, .int .i64, .int .i64, .int .i64, .int .i64]) rs)]), .int .i64 0]:=by
 subst h;rfl
theorem ZHN{e':Int}(ms ks:List AV)(h:e'=0):Wk (.tup [.agg (.gen [.list (.big .str ms), .list (.big (.agg [.str, .int .i64]) ks), .nils]), .int .i64 0]) (ZpB e' ms ks []):=by
 subst h
 exact Wk.tup' ⟨Wk.agg' ⟨.same _, .same _, .nil _ rfl,trivial⟩, .same _,trivial⟩
theorem Zip{ms ks rs:List AV}(h:∀x∈ms,x.toS.length≤1000000)(h1:∀x∈ks,(x.cellAt 0).toS.length≤1000000)(h2:∀x∈rs,(x.cellAt 0).toS.length≤1000000)(h3:ms.length≤1000000∧ks.length≤1000000∧rs.length≤1000000):ZaI ms ks rs=true:=by
 unfold ZaI
 simp only[Bool.and_eq_true,List.all_eq_true,decide_eq_true_eq]
 exact⟨⟨⟨h,h1⟩,h2⟩,h3⟩
theorem ZlN(c:UInt8):∀(s:List UInt8) x,x∈Zba c s→x.length≤s.length
 |[],x,h=>by simp[Zba]at h;simp[h]
 |b::s,x,h=>by
  have ih:=ZlN c s
  rw[Zba]at h
  split at h
  ·rcases List.mem_cons.1 h with rfl |h
   ·simp
   ·have:=ih x h;simp;omega
  ·split at h
   ·simp at h;simp[h]
   ·rename_i y ys e
    rcases List.mem_cons.1 h with rfl |h
    ·have:=ih y (by rw[e];exact List.mem_cons_self);simp;omega
    ·have:=ih x (by rw[e];exact List.mem_cons_of_mem _ h);simp;omega
theorem ZaW(s:List UInt8)(h:s.length≤60000)(c:UInt8):((Zay s (c.toNat:Int)).length≤60001∧1≤(Zay s (c.toNat:Int)).length)∧∀x∈Zay s (c.toNat:Int),x.toS.length≤60000:=by
 have e0:=ZcY s c
 have e:=congrArg List.length e0
 rw[List.length_map]at e
 have h1:=Zli c s
 have h2:0<(Zba c s).length:=List.length_pos_iff.2 (Zjw c s)
 refine⟨⟨by omega,by omega⟩,fun x hx=>?_⟩
 have:=ZlN c s x.toS (by rw[←e0];exact List.mem_map_of_mem hx)
 omega
theorem Zs4{x:AV}(h:x.toS.length≤60000):((kOf x).cellAt 0).toS.length≤60000:=ZvX (ZaW _ h 32).2
theorem ZrP{x:AV}(h:x.toS.length≤60000):((rOf x).cellAt 0).toS.length≤60000:=ZvX (ZaW _ h 32).2
theorem ZeZ(a b c d e:AV):Row.len std (.gen [a,b,c,d,e])=5:=rfl
theorem Zdi(a b:AV):Row.len std (.gen [a,b])=2:=rfl
structure PF (p:List AV):Prop where
 n:(p.length:Int)=3
 l:∀j,(p.getD j .top).toS.length≤60000
theorem ZlW{p:List AV}{B:Nat}(h:∀x∈p,x.toS.length≤B)(j:Nat):(p.getD j .top).toS.length≤B:=by
 by_cases hj:j<p.length
 ·exact h _ (ZaC hj)
 ·rw[List.getD_eq_getElem?_getD,List.getElem?_eq_none (by omega)]
  exact Nat.zero_le B
theorem ZoR{p:List AV}(h:PF p)(rs:List AV)(hr:(∀x∈rs,x.toS.length≤60000)∧rs.length≤60001):ZaI (Zb9 p) ((Zc0 p).map kOf) (rs.map rOf)=true:=by
 have a:=ZaW _ (h.l 0) 32
 have b:=ZaW _ (h.l 1) 44
 refine Zip (fun x hx=>Nat.le_trans (a.2 x hx) (by decide)) (fun x hx=>?_) (fun x hx=>?_) ⟨Nat.le_trans a.1.1 (by decide),?_,?_⟩
 ·obtain⟨y,hy,rfl⟩:=List.mem_map.1 hx
  exact Nat.le_trans (Zs4 (b.2 y hy)) (by decide)
 ·obtain⟨y,hy,rfl⟩:=List.mem_map.1 hx
  exact Nat.le_trans (ZrP (hr.1 y hy)) (by decide)
 ·rw[List.length_map];exact Nat.le_trans b.1.1 (by decide)
 ·rw[List.length_map];omega
section
variable {C:Ctx}(hC:C.P=Tryz.prog)(p:List AV)(hp:PF p)(E:Int)
include hC hp
theorem ZH8(hne:(p.getD 2 .top).toS≠[])(hE:E=if(Zdq p).all rGd=true then Zaj (Zb9 p) ((Zc0 p).map kOf) ((Zdq p).map rOf)else 7)(rl:List AV)(hrl:Zdq p=rl)(hr:(∀x∈rl,x.toS.length≤60000)∧rl.length≤60001):∀m k:Nat,k+m=rl.length→(rl.take k).all rGd=true→Ev C (ZiE p (Zb9 p) ((Zc0 p).map kOf) rl k ((rl.take k).map rOf)) (Zgu p (Zb9 p) ((Zc0 p).map kOf) rl k ((rl.take k).map rOf)) (ZfQ 62 (ZpB E (Zb9 p) ((Zc0 p).map kOf) ((Zdq p).map rOf)) none)
 |0,k,hk,hg=>Zl2 hC Ze6 Zku (by
  obtain rfl:k=rl.length:=by omega
  rw[List.take_length]at hg
  rw[hrl,if_pos hg]at hE
  have hs:=ZoR hp rl hr
  simp[-List.getD_eq_getElem?_getD,ZeG,hs]
  by_cases h0:Zaj (Zb9 p) ((Zc0 p).map kOf) (rl.map rOf)=0
  ·rw[hrl]
   simp[h0,okM _ _ _ (hE.trans h0),Wk.same]
  ·rw[hrl]
   simp[h0,ZqV _ _ _ hE h0])
 |m+1,k,hk,hg=>by
  have hlt:(k:Int)<rl.length:=by omega
  have hlt2:k<rl.length:=by omega
  have h2p:2<p.length:=by have:=hp.n;omega
  have hin:=hr.1 _ (ZaC (d:=.top) hlt2)
  refine Zl2 hC Ze6 Zku ?_
  have hin2:(rl.getD k .top).toS.length≤1000000:=by omega
  by_cases h1:wdB (Zay (rl.getD k .top).toS 32) 5=true
  ·have hl:=Zgp h1
   have ih:=ZH8 hne hE rl hrl hr m (k+1) (by omega) (by rw[ZaA (d:=.top) hlt2,List.all_append,hg];simpa[-List.getD_eq_getElem?_getD,rGd]using h1)
   rw[ZaA (d:=.top) hlt2,List.map_append,List.map_singleton,rOf]at ih
   have hi:∀j:Nat,j<4→j<(wdI (Zay (rl.getD k .top).toS 32) 5).length:=fun j hj=>by omega
   simp[-List.getD_eq_getElem?_getD, -List.map_take,ZeG,hlt,hlt2,h2p,hne,hin2,h1,AV.bx,Zab,hi 0 (by decide),hi 1 (by decide),hi 2 (by decide),hi 3 (by decide),ZeZ]
   exact⟨by omega,by simpa[-List.getD_eq_getElem?_getD, -List.map_take]using ih⟩
  ·have hf:¬(Zdq p).all rGd=true:=fun h=>h1 (List.all_eq_true.1 h _ (by rw[hrl];exact ZaC hlt2))
   rw[if_neg hf]at hE
   simp[-List.getD_eq_getElem?_getD, -List.map_take,ZeG,hlt,hlt2,h2p,hne,hin2,h1]
   exact ZqV _ _ _ hE (by decide)
theorem ZKa(hE:E=if(Zdq p).all rGd=true then Zaj (Zb9 p) ((Zc0 p).map kOf) ((Zdq p).map rOf)else 7):Ev C (ZiG p (Zb9 p) ((Zc0 p).map kOf) (Zay (p.getD 2 .top).toS 44)) (ZgG p (Zb9 p) ((Zc0 p).map kOf) (Zay (p.getD 2 .top).toS 44)) (ZfQ 62 (ZpB E (Zb9 p) ((Zc0 p).map kOf) ((Zdq p).map rOf)) none):=Zl2 hC Ze6 Zqu (by
 have hc:=ZaW _ (hp.l 2) 44
 rw[show ((44:UInt8).toNat:Int)=44 from rfl]at hc
 have h0:0<(Zay (p.getD 2 .top).toS 44).length:=by omega
 have h2p:2<p.length:=by have:=hp.n;omega
 by_cases hne:(p.getD 2 .top).toS=[]
 ·have hrl:Zdq p=[]:=by unfold Zdq;rw[if_pos hne]
  have hs:=ZoR hp [] ⟨fun x hx=>(by cases hx),by decide⟩
  have hz:0<(Zay [] 44).length:=by rwa[hne]at h0
  rw[hrl]at hE⊢
  rw[if_pos (by rfl)]at hE
  simp only[List.map_nil]at hE hs⊢
  simp[-List.getD_eq_getElem?_getD,ZeR,hz,h2p,hne,hs]
  by_cases h0:Zaj (Zb9 p) ((Zc0 p).map kOf) []=0
  ·simp[h0,ZHN _ _ (hE.trans h0)]
  ·simp[h0,ZqV _ _ _ hE h0]
 ·have hrl:Zdq p=Zay (p.getD 2 .top).toS 44:=by unfold Zdq;rw[if_neg hne]
  have hb:=ZH8 hC p hp E hne hE _ hrl ⟨hc.2,hc.1.1⟩
  generalize hw:Zay (p.getD 2 .top).toS 44=rl at*
  have hin:=hc.2 _ (ZaC (d:=.top) h0)
  have hin2:(rl.getD 0 .top).toS.length≤1000000:=by omega
  by_cases h1:wdB (Zay (rl.getD 0 .top).toS 32) 5=true
  ·have hl:=Zgp h1
   have ih:=hb (rl.length-1) 1 (by omega) (by rw[ZaA (k:=0) (d:=.top) h0,List.all_append];simpa[-List.getD_eq_getElem?_getD,rGd]using h1)
   rw[ZaA (k:=0) (d:=.top) h0,List.map_append,List.map_singleton,rOf]at ih
   have hi:∀j:Nat,j<4→j<(wdI (Zay (rl.getD 0 .top).toS 32) 5).length:=fun j hj=>by omega
   simp[-List.getD_eq_getElem?_getD,ZeR,h0,h2p,hne,hin2,h1,AV.bx,Zab,hi 0 (by decide),hi 1 (by decide),hi 2 (by decide),hi 3 (by decide),ZeZ]
   simpa[-List.getD_eq_getElem?_getD]using ih
  ·have hf:¬(Zdq p).all rGd=true:=fun h=>h1 (List.all_eq_true.1 h _ (by rw[hrl];exact ZaC h0))
   rw[if_neg hf]at hE
   simp[-List.getD_eq_getElem?_getD,ZeR,h0,h2p,hne,hin2,h1]
   exact ZqV _ _ _ hE (by decide))
theorem ZIy(hE:E=if((Zc0 p).all kGd&&(Zdq p).all rGd)=true then Zaj (Zb9 p) ((Zc0 p).map kOf) ((Zdq p).map rOf)else 7)(kl:List AV)(hkl:Zc0 p=kl)(hr:(∀x∈kl,x.toS.length≤60000)∧kl.length≤60001):∀m k:Nat,k+m=kl.length→(kl.take k).all kGd=true→Ev C (Zjb p (Zb9 p) kl k ((kl.take k).map kOf)) (Zha p (Zb9 p) kl k ((kl.take k).map kOf)) (ZfQ 62 (ZpB E (Zb9 p) ((Zc0 p).map kOf) ((Zdq p).map rOf)) none)
 |0,k,hk,hg=>Zl2 hC Ze6 ZkT (by
  obtain rfl:k=kl.length:=by omega
  rw[List.take_length]at hg
  have h2p:2<p.length:=by have:=hp.n;omega
  have hin:(p.getD 2 .top).toS.length≤1000000:=by have:=hp.l 2;omega
  have ha:=ZKa hC p hp E (by rw[hkl,hg,Bool.true_and,←hkl]at hE;exact hE)
  rw[hkl]at ha⊢
  simp[-List.getD_eq_getElem?_getD,ZeI,h2p,hin]
  simpa[-List.getD_eq_getElem?_getD]using ha)
 |m+1,k,hk,hg=>by
  have hlt:(k:Int)<kl.length:=by omega
  have hlt2:k<kl.length:=by omega
  have hin:=hr.1 _ (ZaC (d:=.top) hlt2)
  refine Zl2 hC Ze6 ZkT ?_
  have hin2:(kl.getD k .top).toS.length≤1000000:=by omega
  by_cases h1:wdB (Zay (kl.getD k .top).toS 32) 2=true
  ·have hl:=Zgp h1
   have ih:=ZIy hE kl hkl hr m (k+1) (by omega) (by rw[ZaA (d:=.top) hlt2,List.all_append,hg];simpa[-List.getD_eq_getElem?_getD,kGd]using h1)
   rw[ZaA (d:=.top) hlt2,List.map_append,List.map_singleton,kOf]at ih
   have hi:0<(wdI (Zay (kl.getD k .top).toS 32) 2).length:=by omega
   simp[-List.getD_eq_getElem?_getD, -List.map_take,ZeI,hlt,hlt2,hin2,h1,AV.bx,Zab,hi,Zdi]
   exact⟨by omega,by simpa[-List.getD_eq_getElem?_getD, -List.map_take]using ih⟩
  ·have hf:¬((Zc0 p).all kGd&&(Zdq p).all rGd)=true:=fun h=>h1 (List.all_eq_true.1 (Bool.and_eq_true_iff.1 h).1 _ (by rw[hkl];exact ZaC hlt2))
   rw[if_neg hf]at hE
   simp[-List.getD_eq_getElem?_getD, -List.map_take,ZeI,hlt,hlt2,hin2,h1]
   exact ZqV _ _ _ hE (by decide)
theorem ZHg(hE:E=if((Zc0 p).all kGd&&(Zdq p).all rGd)=true then Zaj (Zb9 p) ((Zc0 p).map kOf) ((Zdq p).map rOf)else 7):Ev C (Zjt p (Zb9 p) (Zc0 p)) (ZgN p (Zb9 p) (Zc0 p)) (ZfQ 62 (ZpB E (Zb9 p) ((Zc0 p).map kOf) ((Zdq p).map rOf)) none):=Zl2 hC Ze6 ZpR (by
 have hc:=ZaW _ (hp.l 1) 44
 rw[show ((44:UInt8).toNat:Int)=44 from rfl]at hc
 have hb:=ZIy hC p hp E hE _ rfl ⟨hc.2,hc.1.1⟩
 have h0:0<(Zc0 p).length:=by unfold Zc0;omega
 have hin:(((Zc0 p).getD 0 .top)).toS.length≤60000:=hc.2 _ (ZaC (xs:=Zc0 p) h0)
 generalize Zc0 p=kl at*
 have hin2:(kl.getD 0 .top).toS.length≤1000000:=by omega
 by_cases h1:wdB (Zay (kl.getD 0 .top).toS 32) 2=true
 ·have hl:=Zgp h1
  have ih:=hb (kl.length-1) 1 (by omega) (by rw[ZaA (k:=0) (d:=.top) h0,List.all_append];simpa[-List.getD_eq_getElem?_getD,kGd]using h1)
  rw[ZaA (k:=0) (d:=.top) h0,List.map_append,List.map_singleton,kOf]at ih
  have hi:0<(wdI (Zay (kl.getD 0 .top).toS 32) 2).length:=by omega
  simp[-List.getD_eq_getElem?_getD,ZgZ,h0,hin2,h1,AV.bx,Zab,hi,Zdi]
  simpa[-List.getD_eq_getElem?_getD]using ih
 ·have hf:¬(kl.all kGd&&(Zdq p).all rGd)=true:=fun h=>h1 (List.all_eq_true.1 (Bool.and_eq_true_iff.1 h).1 _ (ZaC h0))
  rw[if_neg hf]at hE
  simp[-List.getD_eq_getElem?_getD,ZgZ,h0,hin2,h1]
  exact ZqV _ _ _ hE (by decide))
theorem ZHX(hE:E=if Zth p=true then Zaj (Zb9 p) ((Zc0 p).map kOf) ((Zdq p).map rOf)else 7)(hl:(Zb9 p).length≤60001):∀m k:Nat,k+m=(Zb9 p).length→((Zb9 p).take k).all mGd=true→Ev C (Ziq p (Zb9 p) k) (Zg6 p (Zb9 p) k) (ZfQ 62 (ZpB E (Zb9 p) ((Zc0 p).map kOf) ((Zdq p).map rOf)) none)
 |0,k,hk,hg=>Zl2 hC Ze6 Zkp (by
  obtain rfl:k=(Zb9 p).length:=by omega
  rw[List.take_length]at hg
  have h2p:1<p.length:=by have:=hp.n;omega
  have hin:(p.getD 1 .top).toS.length≤1000000:=by have:=hp.l 1;omega
  have ha:=ZHg hC p hp E (by unfold Zth at hE;rw[hg,Bool.true_and]at hE;exact hE)
  simp[-List.getD_eq_getElem?_getD,ZeO,h2p,hin]
  simpa[-List.getD_eq_getElem?_getD,Zc0]using ha)
 |m+1,k,hk,hg=>by
  have hlt:(k:Int)<(Zb9 p).length:=by omega
  have hlt2:k<(Zb9 p).length:=by omega
  refine Zl2 hC Ze6 Zkp ?_
  by_cases h1:((Zb9 p).getD k .top).toS=[]
  ·have hf:¬Zth p=true:=fun h=>by
    have:=List.all_eq_true.1 (Bool.and_eq_true_iff.1 h).1 _ (ZaC (d:=.top) hlt2)
    simp only[mGd,decide_eq_true_eq]at this
    exact this h1
   rw[if_neg hf]at hE
   simp[-List.getD_eq_getElem?_getD,ZeO,hlt,hlt2,h1]
   exact ZqV _ _ _ hE (by decide)
  ·have ih:=ZHX hE hl m (k+1) (by omega) (by rw[ZaA (d:=.top) hlt2,List.all_append,hg];simpa[-List.getD_eq_getElem?_getD,mGd]using h1)
   simp[-List.getD_eq_getElem?_getD,ZeO,hlt,hlt2,h1]
   exact⟨by omega,by simpa using ih⟩
end
theorem Zkv(s:List UInt8):Zat Tryz.prog 62 [.str s] (pmR s) none:=
 ZvC (ZyQ s) fun C hC=>Zl2 hC Ze6 ZG1 (by
  unfold pmR
  by_cases h1:s.length≤60000
  ·have h1n:¬(60000:Int)<s.length:=by omega
   have hc:=ZaW s h1 59
   rw[show ((59:UInt8).toNat:Int)=59 from rfl]at hc
   by_cases h2:((pmP s).length:Int)=3
   ·have hp:PF (pmP s):=⟨h2,ZlW hc.2⟩
    have hE:pmE s=if Zth (pmP s)=true then Zaj (Zb9 (pmP s)) ((Zc0 (pmP s)).map kOf) ((Zdq (pmP s)).map rOf)else 7:=by unfold pmE;rw[if_pos h1,if_pos h2]
    have hm:=ZaW _ (hp.l 0) 32
    have:=ZHX hC (pmP s) hp (pmE s) hE hm.1.1 (Zb9 (pmP s)).length 0 (by omega) (by rfl)
    have h0:0<(Zay s 59).length:=by have:((Zay s 59).length:Int)=3:=h2;omega
    have h3:((Zay s 59).length:Int)=3:=h2
    have h4:((Zay s 59).getD 0 .top).toS.length≤1000000:=Nat.le_trans (hp.l 0) (by decide)
    have h5:s.length≤1000000:=by omega
    unfold pmP Zb9 at this⊢
    simp[-List.getD_eq_getElem?_getD,ZtA,h1n,h5,h0,h3,h4]
    simpa[-List.getD_eq_getElem?_getD]using this
   ·have hE:pmE s=7:=by unfold pmE;rw[if_pos h1,if_neg h2]
    have h3:¬((Zay s 59).length:Int)=3:=h2
    have h5:s.length≤1000000:=by omega
    simp[-List.getD_eq_getElem?_getD,ZtA,h1n,h5,h3]
    exact ZqV _ _ _ hE (by decide)
  ·have hE:pmE s=8:=by unfold pmE;rw[if_neg h1]
   simp[ZtA,show(60000:Int)<s.length by omega]
   exact ZqV _ _ _ hE (by decide))
def k62:Ctr:=⟨62,0,fun _ a=>match a with |[.str s]=>some (true,pmR s,none) |_=>none⟩
theorem ZCh:k62.OK Tryz.prog:=fun pa args r fr h=>by
 simp only[k62]at h
 split at h
 ·cases h
  exact Zkv _
 ·cases h
def Lt8:List Ctr:=[k62]++Lt7
theorem ZEv:Zaw Tryz.prog Lt8:=⟨ZCh,Ze6⟩
end Go.Proofs.YtkeoeooghhjibaaGreatDoor
/- Numbers of items: the program's reading and the reference's are one, the number -1 included: plain. No condition. -/
namespace Go.Proofs.YtkeoeooghhjibaaGreatDoor
theorem Zj1(x:UInt8)(t:List UInt8):∀(m i:Nat) (n:Int),Zl5 (x::t) m (i+1) n=Zl5 t m i n
 |0,_,_=>rfl
 |m+1,i,n=>by
  rw[Zl5,Zl5,List.getD_cons_succ,Zj1 x t m (i+1)]
theorem Zjy(s:List UInt8):∀(m i:Nat) (n v:Int),0≤n→Zl5 s m i n=some v→0≤v
 |0,_,n,v,h,e=>by cases e;exact h
 |m+1,i,n,v,h,e=>by
  rw[Zl5]at e
  split at e
  ·cases e
  ·exact Zjy s m (i+1) _ v (by omega) e
theorem Zmw(s:List UInt8):Ze0 s 7=some (-1)↔s=[45,49]:=by
 constructor
 ·intro h
  unfold Ze0 at h
  split at h
  ·rename_i hg
   obtain⟨v,hv,e⟩:=Option.map_eq_some_iff.1 h
   have hv0:=Zjy s _ _ _ _ (by decide) hv
   split at e
   ·rename_i h1
    obtain rfl:v=1:=by omega
    have ha:0<s.length∧(s.getD 0 0).toNat=45:=by
     unfold Zdh at h1
     split at h1
     ·assumption
     ·cases h1
    unfold Zm4 at hg
    rw[h1]at hg hv
    simp only[decide_eq_true_eq]at hg
    cases s with
    |nil=>simp at ha
    |cons x t=>
     have hx:x=45:=UInt8.toNat_inj.1 (by simpa using ha.2)
     subst hx
     rw[Zj1]at hv
     rw[List.getD_cons_succ]at hg
     simp only[List.length_cons,Nat.add_sub_cancel]at hv hg
     have hpos:0<t.length:=by omega
     have h48:¬((t.getD 0 0).toNat:Int)<48:=by
      obtain⟨k,hk⟩:∃k,t.length=k+1:=⟨t.length-1,by omega⟩
      rw[hk,Zl5]at hv
      split at hv
      ·cases hv
      ·omega
     have hat:Zdh t=0:=by
      unfold Zdh
      rw[if_neg (by omega)]
     have hn:Ze0 t 7=some 1:=by
      unfold Ze0
      rw[if_pos (by unfold Zm4;rw[hat];simp only[decide_eq_true_eq];omega),hat,Nat.sub_zero,hv]
      rfl
     obtain⟨u,hu,hl⟩:=ZpC t 7 1 hn (by decide)
     have h2:=Zfp u 7 (by rw[hu];exact hl)
     rw[hu,hn]at h2
     have:u=1:=by injection h2 with h2;omega
     subst this
     rw[←hu]
     have:Lib.decDigits 1=[49]:=by decide +kernel
     rw[this]
   ·omega
  ·cases h
 ·rintro rfl
  decide +kernel
def itB(x:List UInt8):Bool:=decide (x=[45,49])||ZdK x 7
def itV(x:List UInt8):Int:=if x=[45,49]then -1 else Zbn x
theorem ZmE(x:List UInt8):itB x=(Zh3 x 7&&decide (-1≤ZbO x 7))∧(itB x=true→itV x=ZbO x 7):=by
 have hs:=Zuq x 7 (by decide)
 have hm:=Zmw x
 unfold itB itV Zh3 ZbO
 by_cases h:x=[45,49]
 ·have e:=hm.2 h
  rw[e,if_pos h]
  simp[h]
 ·have e:Ze0 x 7≠some (-1):=fun e=>h (hm.1 e)
  rw[if_neg h,hs.1]
  cases hn:Ze0 x 7 with
  |none=>simp[h]
  |some v=>
   have:v≠ -1:=fun e2=>e (by rw[hn,e2])
   have h2:=hs.2
   rw[hs.1,hn]at h2
   simp[h]
   refine⟨?_,fun hv=>?_⟩
   ·by_cases h0:0≤v
    ·simp[h0];omega
    ·simp[h0];omega
   ·simpa using h2 (by simpa using hv)
end Go.Proofs.YtkeoeooghhjibaaGreatDoor
/- A valid model is read back from its string: plain. No condition. -/
namespace Go.Proofs.YtkeoeooghhjibaaGreatDoor
theorem Zdg(c:UInt8):∀ps:List (List UInt8),ps≠[]→(∀x∈ps,c∉x)→Zba c (Lib.join ps [c])=ps
 |[],h,_=>absurd rfl h
 |[x],_,h=>by rw[Lib.join_one,ZcS c x (h x List.mem_cons_self)]
 |x::y::r,_,h=>by
  have ih:=Zdg c (y::r) (by simp) (fun z hz=>h z (List.mem_cons_of_mem _ hz))
  have e:Lib.join (x::y::r) [c]=x++c::Lib.join (y::r) [c]:=by
   rw[Lib.join_cons,Lib.join_cons];simp[Lib.joinTail]
  rw[e,ZeW c x _ (h x List.mem_cons_self),ih]
def ZnO(s:List UInt8):Prop:=(32:UInt8)∉s∧(44:UInt8)∉s∧(59:UInt8)∉s
theorem ZrG(f:Nat→Int):∀(m k:Nat),nmR f m k=true→∀j,k≤j→j<k+m→∃i,ZyL i (f j)=true
 |0,k,_,j,h1,h2=>by omega
 |m+1,k,h,j,h1,h2=>by
  rw[nmR,Bool.and_eq_true]at h
  by_cases hj:j=k
  ·subst hj;exact⟨_,h.1⟩
  ·exact ZrG f m (k+1) h.2 j (by omega) (by omega)
theorem ZgF{s:List UInt8}(h:ZaS s=true):ZnO s∧s≠[]:=by
 unfold ZaS at h
 simp only[Bool.and_eq_true,decide_eq_true_eq]at h
 have hne:s≠[]:=by rintro rfl;simp at h
 have hx:∀c∈s,((65:Int)≤(c.toNat:Int)∨(c.toNat:Int)=45∨(48≤(c.toNat:Int)∧(c.toNat:Int)≤57))∧(c.toNat:Int)≤122:=by
  intro c hc
  obtain⟨j,hj,rfl⟩:=List.getElem_of_mem hc
  obtain⟨i,hi⟩:=ZrG _ _ _ h.2 j (by omega) (by omega)
  have e:s.getD j 0=s[j]:=by rw[List.getD_eq_getElem?_getD,List.getElem?_eq_getElem hj];rfl
  rw[e]at hi
  unfold ZyL at hi
  simp only[decide_eq_true_eq]at hi
  omega
 refine⟨⟨fun h=>?_,fun h=>?_,fun h=>?_⟩,hne⟩
 ·have:=hx _ h;simp at this
 ·have:=hx _ h;simp at this
 ·have:=hx _ h;simp at this
theorem ZdW(u:Nat)(c:UInt8)(hc:c.toNat<48∨57<c.toNat):c∉Lib.decDigits u:=fun h=>by
 have:=ZgM u c h
 omega
theorem Zj3{v:Int}(h: -1≤v):ZnO (Lib.itoa v):=by
 by_cases h0:0≤v
 ·obtain⟨u,rfl⟩:∃u:Nat,v=u:=⟨v.toNat,by omega⟩
  rw[Zia]
  exact⟨ZdW u _ (by decide),ZdW u _ (by decide),ZdW u _ (by decide)⟩
 ·obtain rfl:v= -1:=by omega
  have:Lib.itoa (-1)=[45,49]:=by decide +kernel
  rw[this]
  exact⟨by decide,by decide,by decide⟩
theorem Zpm:∀k u:Nat,u<10^(k+1)→(Lib.decDigits u).length≤k+1
 |0,u,h=>by rw[Lib.decDigits,dif_pos (by simpa using h)];simp
 |k+1,u,h=>by
  rw[Lib.decDigits]
  split
  ·simp
  ·have ih:=Zpm k (u/10) (by rw[Nat.pow_succ]at h;omega)
   simp;omega
theorem Zo8{v:Int}(h: -1≤v)(h2:v≤1000000):Zh3 (Lib.itoa v) 7=true∧ZbO (Lib.itoa v) 7=v:=by
 by_cases h0:0≤v
 ·obtain⟨u,rfl⟩:∃u:Nat,v=u:=⟨v.toNat,by omega⟩
  have hl:(Lib.decDigits u).length≤7:=Zpm 6 u (by have:(10:Nat)^(6+1)=10000000:=(by decide);omega)
  have:=Zfp u 7 (by omega)
  unfold Zh3 ZbO
  rw[Zia,this]
  exact⟨rfl,rfl⟩
 ·obtain rfl:v= -1:=by omega
  have:Lib.itoa (-1)=[45,49]:=by decide +kernel
  rw[this]
  unfold Zh3 ZbO
  rw[(Zmw _).2 rfl]
  exact⟨rfl,rfl⟩
theorem ZjK(l:List AV)(j:Nat):AV.toS (l.getD j .top)=(l.map AV.toS).getD j []:=by
 rw[List.getD_eq_getElem?_getD,List.getD_eq_getElem?_getD,List.getElem?_map]
 cases l[j]?<;>rfl
theorem Zk4(nm:List UInt8)(vs:List Int)(hn:ZnO nm∧nm≠[])(hv:∀v∈vs, -1≤v∧v≤1000000){t:List UInt8}(hx:t=Lib.join (nm::vs.map Lib.itoa) [32]):
 wdB (Zay t 32) (vs.length+1)=true∧wdS (Zay t 32) (vs.length+1)=nm∧wdI (Zay t 32) (vs.length+1)=vs:=by
 have hm:(Zay t 32).map AV.toS=nm::vs.map Lib.itoa:=by
  have h2:=ZcY t 32
  rw[show (((32:UInt8).toNat:Nat):Int)=32 from rfl]at h2
  rw[h2,hx]
  refine Zdg 32 _ (by simp) fun z hz=>?_
  rcases List.mem_cons.1 hz with rfl |hz
  ·exact hn.1.1
  ·obtain⟨v,hv2,rfl⟩:=List.mem_map.1 hz
   exact(Zj3 (hv v hv2).1).1
 generalize Zay t 32=W at*
 have hl:W.length=vs.length+1:=by
  have:=congrArg List.length hm
  simpa using this
 have h0:(W.getD 0 .top).toS=nm:=by rw[ZjK,hm];rfl
 have hd:(W.drop 1).map AV.toS=vs.map Lib.itoa:=by rw[List.map_drop,hm];rfl
 have hall:(W.drop 1).all nmB=true:=List.all_eq_true.2 fun y hy=>by
  have:y.toS∈vs.map Lib.itoa:=by rw[←hd];exact List.mem_map_of_mem hy
  obtain⟨v,hv2,e⟩:=List.mem_map.1 this
  obtain⟨a1,a2⟩:=Zo8 (hv v hv2).1 (hv v hv2).2
  have h3:=(hv v hv2).1
  unfold nmB
  rw[←e,a1,a2]
  simp[h3]
 have hb:wdB W (vs.length+1)=true:=by
  unfold wdB
  rw[h0,hall]
  simp[hl,hn.2]
 have hm2:(W.drop 1).map nmV=vs:=by
  have e:(W.drop 1).map nmV=((W.drop 1).map AV.toS).map fun z=>ZbO z 7:=by rw[List.map_map];rfl
  rw[e,hd,List.map_map]
  have:∀v∈vs,((fun z=>ZbO z 7)∘Lib.itoa) v=v:=fun v hv2=>(Zo8 (hv v hv2).1 (hv v hv2).2).2
  exact(List.map_congr_left this).trans (List.map_id' vs)
 refine⟨hb,?_,?_⟩
 ·unfold wdS;rw[hb];exact h0
 ·unfold wdI;rw[hb];simpa using hm2
theorem Zm6{ms ks rs ms' ks' rs':List AV}(h1:ms'.length=ms.length)(h2:ks'.length=ks.length)(h3:rs'.length=rs.length)(hm:∀i:Int,Za2 ms' i=Za2 ms i)(hk:∀i:Int,Zax ks' i=Zax ks i)(hk1:∀i:Int,ZaR ks' i 1=ZaR ks i 1)(hr:∀i:Int,Zax rs' i=Zax rs i)(hr1:∀i:Int,ZaR rs' i 1=ZaR rs i 1)(hr2:∀i:Int,ZaR rs' i 2=ZaR rs i 2)(hr3:∀i:Int,ZaR rs' i 3=ZaR rs i 3)(hr4:∀i:Int,ZaR rs' i 4=ZaR rs i 4):Zaj ms' ks' rs'=Zaj ms ks rs:=by
 unfold Zaj Zd6 Zrm ZnW ZpT Zc7 ZbR
 simp only[h1,h2,h3,hm,hk,hk1,hr,hr1,hr2,hr3,hr4]
theorem Zdz{e:AV→AV→Bool} :∀ {xs ys:List AV},xs.length=ys.length→(∀j,j<xs.length→e (xs.getD j .top) (ys.getD j .top)=true)→Zcg e xs ys=true
 |[],[],_,_=>rfl
 |[],_::_,h,_=>by simp at h
 |_::_,[],h,_=>by simp at h
 |x::xs,y::ys,h,he=>by
  rw[Zcg,Bool.and_eq_true]
  refine⟨he 0 (by simp),Zdz (by simpa using h) fun j hj=>?_⟩
  have:=he (j+1) (by simpa using hj)
  simpa only[List.getD_cons_succ]using this
theorem ZnP{f:AV→AV}{xs:List AV}{j:Nat}(h:j<xs.length):(xs.map f).getD j .top=f (xs.getD j .top):=by
 rw[List.getD_eq_getElem?_getD,List.getD_eq_getElem?_getD,List.getElem?_map,List.getElem?_eq_getElem h];rfl
theorem Zik{xs:List AV}{j:Nat}(h:¬j<xs.length):xs.getD j .top=.top:=by
 rw[List.getD_eq_getElem?_getD,List.getElem?_eq_none (by omega)];rfl
theorem ZoE{xs ys:List AV}{g:AV→List UInt8}{f:AV→AV}{P:AV→AV→Prop}(hm:xs.map AV.toS=ys.map g)(hP:∀x y,y∈ys→x.toS=g y→P (f x) y):(xs.map f).length=ys.length∧∀j,j<ys.length→P ((xs.map f).getD j .top) (ys.getD j .top):=by
 have hl:xs.length=ys.length:=by have:=congrArg List.length hm;simpa using this
 refine⟨by rw[List.length_map,hl],fun j hj=>?_⟩
 rw[ZnP (by omega)]
 refine hP _ _ (ZaC hj) ?_
 rw[ZjK,hm,List.getD_eq_getElem?_getD,List.getElem?_map,List.getD_eq_getElem?_getD,List.getElem?_eq_getElem hj]
 rfl
theorem Zlj{c d:UInt8}(hcd:c≠d):∀ps:List (List UInt8),(∀x∈ps,c∉x)→c∉Lib.join ps [d]
 |[],_=>by simp[Lib.join_nil]
 |x::r,h=>by
  rw[Lib.join_cons]
  intro hc
  rcases List.mem_append.1 hc with hc |hc
  ·exact h x List.mem_cons_self hc
  ·simp only[Lib.joinTail,List.mem_flatten,List.mem_map]at hc
   obtain⟨l,⟨y,hy,rfl⟩,hl⟩:=hc
   rcases List.mem_append.1 hl with hl |hl
   ·exact hcd (List.mem_singleton.1 hl)
   ·exact h y (List.mem_cons_of_mem _ hy) hl
theorem Zr7{x:List UInt8}{r:List (List UInt8)}{p:List UInt8}(h:x≠[]):Lib.join (x::r) p≠[]:=by
 rw[Lib.join_cons]
 intro e
 exact h (List.append_eq_nil_iff.1 e).1
end Go.Proofs.YtkeoeooghhjibaaGreatDoor
