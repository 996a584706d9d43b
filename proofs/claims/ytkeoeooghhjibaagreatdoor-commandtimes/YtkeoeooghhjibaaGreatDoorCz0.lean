/- Paths of functions, printed by the explorer (Gx). No condition. -/
import Derived.Test.YtkeoeooghhjibaaGreatDoorCw
import Derived.KernelRfl
namespace Go.Proofs.YtkeoeooghhjibaaGreatDoor
set_option maxRecDepth 100000
set_option linter.unusedVariables false
def ZAh(ms ks rs l:List AV):AFrame:={ fn:=24,N:=46,env:=[(0,AV.agg (Row.gen [.list (Row.big .str ms), .list (Row.big (.agg [.str, .int .i64]) ks), .list (Row.big (.agg [.str, .int .i64, .int .i64, .int .i64, .int .i64]) rs)])),(1,AV.list (Row.big (.agg [.int .i64, .int .i64, .int .i64]) l))],todo:=[.code a24.code],defs:=[],rnd:=none,ret:=false,res:=[ARes.tmp 4,ARes.tmp 5] }
def ZGF(ms ks rs l:List AV):List AFrame:=[(ZAh ms ks rs l)]
theorem ZsC(ms ks rs l:List AV):Zat tab 24 [AV.agg (Row.gen [.list (Row.big .str ms), .list (Row.big (.agg [.str, .int .i64]) ks), .list (Row.big (.agg [.str, .int .i64, .int .i64, .int .i64, .int .i64]) rs)]),AV.list (Row.big (.agg [.int .i64, .int .i64, .int .i64]) l)]=some (ZAh ms ks rs l):=rfl
def Zj3(ms ks rs l:List AV)(n0:Int)(l1:List Int):List AFrame:=[{ fn:=24,N:=46,env:=[(8,AV.ptr 72012 0 0 0),(9,AV.nils),(23,AV.list (Row.big (.agg [.int .i64, .int .i64, .int .i64]) l)),(24,AV.int .i64 n0),(25,AV.int .i64 0)],todo:=.code (ACode.gh [] ZsT)::Zqe,defs:=[],rnd:=none,ret:=false,res:=[ARes.tmp 4,ARes.tmp 5] }]
def ZhW(ms ks rs l:List AV)(n0:Int)(l1:List Int):Zab:=[(72009,{ base:=0,blks:=[Blk.row 3 1 (.ints .i64 l1)] }),(72012,{ base:=0,blks:=[Blk.row 137 6 (Row.gen [AV.agg (Row.gen [AV.list (Row.big .str ms),AV.list (Row.big (.agg [.str, .int .i64]) ks),AV.list (Row.big (.agg [.str, .int .i64, .int .i64, .int .i64, .int .i64]) rs),AV.int .i64 0,AV.int .i64 0,AV.row 72009 0])])] })]
abbrev Zm7(ms ks rs l:List AV)(n0:Int)(l1:List Int):List AFrame×Zab:=(Zj3 ms ks rs l n0 l1,ZhW ms ks rs l n0 l1)
def ZeQ(ms ks rs l:List AV)(n0:Int)(l1:List Int)(n2:Int)(b3:Bool)(n4 n5 n6 n7 n8 n9 n10 n11 n12 n13 n14 n15 n16 n17 n18 n19 n20:Int):List AFrame:=[{ fn:=73,N:=78,env:=[(0,AV.ptr 72012 0 0 0),(3,AV.ptr 73004 0 0 0),(24,AV.list (Row.big (.agg [.str, .int .i64, .int .i64, .int .i64, .int .i64]) rs)),(25,AV.int .i64 n2),(26,AV.int .i64 n20)],todo:=.code (ACode.gh [] Zud)::ZAX,defs:=[],rnd:=none,ret:=false,res:=[ARes.tmp 4] },{ fn:=24,N:=46,env:=[(8,AV.ptr 72012 0 0 0),(9,AV.nils),(11,AV.ptr 24012 0 0 0),(23,AV.list (Row.big (.agg [.int .i64, .int .i64, .int .i64]) l)),(24,AV.int .i64 n0),(25,AV.int .i64 0),(26,AV.bool b3),(27,AV.eptr (AV.agg (Row.gen [.int .i64 n4, .int .i64 n5, .int .i64 n6])) 0),(28,AV.agg (Row.gen [.int .i64 n7, .int .i64 n8, .int .i64 n9])),(29,AV.ptr 72012 0 0 0),(30,AV.agg (Row.gen [.int .i64 n10, .int .i64 n11, .int .i64 n12]))],todo:=AItem.inReg [oN 31 (OpK.icall 73 [Opd.t 29,Opd.t 30]),oN 32 (OpK.not (Opd.t 31))]::.code (ACode.cond (Opd.t 32) (ACode.seq (ACode.reg none [oN 4 (OpK.mov (Opd.c AV.nils)),oN 5 (OpK.mov (cI 12))]) ACode.ret) ACode.skip)::.code (ACode.seq (ACode.reg none [mV 33 8,oN 34 (OpK.load true 3 (Opd.t 11)),oN 35 (OpK.icall 74 [Opd.t 33,Opd.t 34])]) (ACode.reg none [mV 36 9,mV 37 8,oN 38 (OpK.nilck (Opd.t 37)),oN 39 (OpK.faddr 3 (Opd.t 38)),oN 40 (OpK.faddr 1 (Opd.t 39)),oN 41 (OpK.load false 1 (Opd.t 40)),oN 42 (OpK.bslice 24043 3 1 [Opd.t 41]),oN 43 (OpK.append 24044 3 1 (Opd.t 36) (Opd.t 42)),mV 9 43]))::AItem.inBlock 1::.code (ACode.reg none [oN 44 (OpK.bin Go.BinOp.add (Opd.t 25) (cI 1)),mV 25 44])::Zqe,defs:=[],rnd:=none,ret:=false,res:=[ARes.tmp 4,ARes.tmp 5] }]
def ZdJ(ms ks rs l:List AV)(n0:Int)(l1:List Int)(n2:Int)(b3:Bool)(n4 n5 n6 n7 n8 n9 n10 n11 n12 n13 n14 n15 n16 n17 n18 n19 n20:Int):Zab:=[(24012,{ base:=0,blks:=[Blk.row 82 3 (Row.gen [AV.agg (Row.gen [AV.int .i64 n13,AV.int .i64 n14,AV.int .i64 n15])])] }),(72009,{ base:=0,blks:=[Blk.row 3 1 (.ints .i64 l1)] }),(72012,{ base:=0,blks:=[Blk.row 137 6 (Row.gen [AV.agg (Row.gen [AV.list (Row.big .str ms),AV.list (Row.big (.agg [.str, .int .i64]) ks),AV.list (Row.big (.agg [.str, .int .i64, .int .i64, .int .i64, .int .i64]) rs),AV.int .i64 0,AV.int .i64 n16,AV.row 72009 0])])] }),(73004,{ base:=0,blks:=[Blk.row 82 3 (Row.gen [AV.agg (Row.gen [AV.int .i64 n17,AV.int .i64 n18,AV.int .i64 n19])])] })]
abbrev Zcz(ms ks rs l:List AV)(n0:Int)(l1:List Int)(n2:Int)(b3:Bool)(n4 n5 n6 n7 n8 n9 n10 n11 n12 n13 n14 n15 n16 n17 n18 n19 n20:Int):List AFrame×Zab:=(ZeQ ms ks rs l n0 l1 n2 b3 n4 n5 n6 n7 n8 n9 n10 n11 n12 n13 n14 n15 n16 n17 n18 n19 n20,ZdJ ms ks rs l n0 l1 n2 b3 n4 n5 n6 n7 n8 n9 n10 n11 n12 n13 n14 n15 n16 n17 n18 n19 n20)
def ZgV(ms ks rs l:List AV)(n0 n21:Int)(l22 l23:List Int)(n24 n25:Int):List AFrame:=[{ fn:=24,N:=46,env:=[(8,AV.ptr 72012 0 0 0),(9,AV.row 24044 0),(23,AV.list (Row.big (.agg [.int .i64, .int .i64, .int .i64]) l)),(24,AV.int .i64 n0),(25,AV.int .i64 n21)],todo:=.code (ACode.gh [] ZsT)::Zqe,defs:=[],rnd:=none,ret:=false,res:=[ARes.tmp 4,ARes.tmp 5] }]
def Zff(ms ks rs l:List AV)(n0 n21:Int)(l22 l23:List Int)(n24 n25:Int):Zab:=[(24044,{ base:=0,blks:=[Blk.row 3 1 (.ints .i64 l22)] }),(72009,{ base:=0,blks:=[Blk.row 3 1 (.ints .i64 l23)] }),(72012,{ base:=0,blks:=[Blk.row 137 6 (Row.gen [AV.agg (Row.gen [AV.list (Row.big .str ms),AV.list (Row.big (.agg [.str, .int .i64]) ks),AV.list (Row.big (.agg [.str, .int .i64, .int .i64, .int .i64, .int .i64]) rs),AV.int .i64 n24,AV.int .i64 n25,AV.row 72009 0])])] })]
abbrev ZdM(ms ks rs l:List AV)(n0 n21:Int)(l22 l23:List Int)(n24 n25:Int):List AFrame×Zab:=(ZgV ms ks rs l n0 n21 l22 l23 n24 n25,Zff ms ks rs l n0 n21 l22 l23 n24 n25)
def ZeH(ms ks rs l:List AV)(n0 n21:Int)(l22 l23:List Int)(n24 n26:Int)(b27:Bool)(n28 n29 n30 n31 n32 n33 n34 n35 n36 n37 n38 n39 n40 n41 n42 n43 n44:Int):List AFrame:=[{ fn:=73,N:=78,env:=[(0,AV.ptr 72012 0 0 0),(3,AV.ptr 73004 0 0 0),(24,AV.list (Row.big (.agg [.str, .int .i64, .int .i64, .int .i64, .int .i64]) rs)),(25,AV.int .i64 n26),(26,AV.int .i64 n44)],todo:=.code (ACode.gh [] Zud)::ZAX,defs:=[],rnd:=none,ret:=false,res:=[ARes.tmp 4] },{ fn:=24,N:=46,env:=[(8,AV.ptr 72012 0 0 0),(9,AV.row 24044 0),(11,AV.ptr 24012 0 0 0),(23,AV.list (Row.big (.agg [.int .i64, .int .i64, .int .i64]) l)),(24,AV.int .i64 n0),(25,AV.int .i64 n21),(26,AV.bool b27),(27,AV.eptr (AV.agg (Row.gen [.int .i64 n28, .int .i64 n29, .int .i64 n30])) 0),(28,AV.agg (Row.gen [.int .i64 n31, .int .i64 n32, .int .i64 n33])),(29,AV.ptr 72012 0 0 0),(30,AV.agg (Row.gen [.int .i64 n34, .int .i64 n35, .int .i64 n36]))],todo:=AItem.inReg [oN 31 (OpK.icall 73 [Opd.t 29,Opd.t 30]),oN 32 (OpK.not (Opd.t 31))]::.code (ACode.cond (Opd.t 32) (ACode.seq (ACode.reg none [oN 4 (OpK.mov (Opd.c AV.nils)),oN 5 (OpK.mov (cI 12))]) ACode.ret) ACode.skip)::.code (ACode.seq (ACode.reg none [mV 33 8,oN 34 (OpK.load true 3 (Opd.t 11)),oN 35 (OpK.icall 74 [Opd.t 33,Opd.t 34])]) (ACode.reg none [mV 36 9,mV 37 8,oN 38 (OpK.nilck (Opd.t 37)),oN 39 (OpK.faddr 3 (Opd.t 38)),oN 40 (OpK.faddr 1 (Opd.t 39)),oN 41 (OpK.load false 1 (Opd.t 40)),oN 42 (OpK.bslice 24043 3 1 [Opd.t 41]),oN 43 (OpK.append 24044 3 1 (Opd.t 36) (Opd.t 42)),mV 9 43]))::AItem.inBlock 1::.code (ACode.reg none [oN 44 (OpK.bin Go.BinOp.add (Opd.t 25) (cI 1)),mV 25 44])::Zqe,defs:=[],rnd:=none,ret:=false,res:=[ARes.tmp 4,ARes.tmp 5] }]
def ZdW(ms ks rs l:List AV)(n0 n21:Int)(l22 l23:List Int)(n24 n26:Int)(b27:Bool)(n28 n29 n30 n31 n32 n33 n34 n35 n36 n37 n38 n39 n40 n41 n42 n43 n44:Int):Zab:=[(24012,{ base:=0,blks:=[Blk.row 82 3 (Row.gen [AV.agg (Row.gen [AV.int .i64 n37,AV.int .i64 n38,AV.int .i64 n39])])] }),(24044,{ base:=0,blks:=[Blk.row 3 1 (.ints .i64 l22)] }),(72009,{ base:=0,blks:=[Blk.row 3 1 (.ints .i64 l23)] }),(72012,{ base:=0,blks:=[Blk.row 137 6 (Row.gen [AV.agg (Row.gen [AV.list (Row.big .str ms),AV.list (Row.big (.agg [.str, .int .i64]) ks),AV.list (Row.big (.agg [.str, .int .i64, .int .i64, .int .i64, .int .i64]) rs),AV.int .i64 n24,AV.int .i64 n40,AV.row 72009 0])])] }),(73004,{ base:=0,blks:=[Blk.row 82 3 (Row.gen [AV.agg (Row.gen [AV.int .i64 n41,AV.int .i64 n42,AV.int .i64 n43])])] })]
abbrev ZcC(ms ks rs l:List AV)(n0 n21:Int)(l22 l23:List Int)(n24 n26:Int)(b27:Bool)(n28 n29 n30 n31 n32 n33 n34 n35 n36 n37 n38 n39 n40 n41 n42 n43 n44:Int):List AFrame×Zab:=(ZeH ms ks rs l n0 n21 l22 l23 n24 n26 b27 n28 n29 n30 n31 n32 n33 n34 n35 n36 n37 n38 n39 n40 n41 n42 n43 n44,ZdW ms ks rs l n0 n21 l22 l23 n24 n26 b27 n28 n29 n30 n31 n32 n33 n34 n35 n36 n37 n38 n39 n40 n41 n42 n43 n44)
def Zvl(A:Ar)(K:KT)(F:FT)(ms ks rs l:List AV):Prop:=rB [decide (ZaB ms ks rs=true∧List.length l≤1000000)] (bB (A.not (A.eq (Zdq (ZaJ ms ks rs) (↑(List.length ks)) l) 0)) (F (AV.tup [AV.nils,AV.int .i64 (Zdq (ZaJ ms ks rs) (↑(List.length ks)) l)]) (none)) (rB [decide ([-1]=[-1]∧0≤A.int (A.lenA ks)∧A.int (A.lenA ks)≤8),List.all [AV.int .i64 (-1)] fun x=>AV.bx x&&Nat.beq (Zai A x) 1] (K (Zm7 (ms) (ks) (rs) (l) (A.int (A.lenA l)) (List.replicate (Int.toNat (A.int (A.lenA ks))) (-1))))))
theorem ZCq{A:Ar}{K:KT}{F:FT}{M:MT}{ms ks rs l:List AV} :ZaI A tab Bd 24 K F M (.run 24 (.tf (.run 7 (.fn)) (.run 31 (.hd)))) (ZGF ms ks rs l) []=Zvl A K F ms ks rs l:=by kernel_rfl
def ZiJ(A:Ar)(K:KT)(F:FT)(ms ks rs l:List AV)(n0:Int)(l1:List Int):Prop:=bB (A.lt 0 n0) (rB [Zaf (Zaf (A.le 0 0) (Nat.blt (A.nat 0) (A.lenA l))) true] (K (Zcz (ms) (ks) (rs) (l) (n0) (l1) (A.int (A.lenA rs)) (A.lt 0 n0) ((A.nthA l (A.nat 0)).cellAt 0).toI ((A.nthA l (A.nat 0)).cellAt 1).toI ((A.nthA l (A.nat 0)).cellAt 2).toI ((A.nthA l (A.nat 0)).cellAt 0).toI ((A.nthA l (A.nat 0)).cellAt 1).toI ((A.nthA l (A.nat 0)).cellAt 2).toI ((A.nthA l (A.nat 0)).cellAt 0).toI ((A.nthA l (A.nat 0)).cellAt 1).toI ((A.nthA l (A.nat 0)).cellAt 2).toI ((A.nthA l (A.nat 0)).cellAt 0).toI ((A.nthA l (A.nat 0)).cellAt 1).toI ((A.nthA l (A.nat 0)).cellAt 2).toI (A.max 0 ((A.nthA l (A.nat 0)).cellAt 1).toI) ((A.nthA l (A.nat 0)).cellAt 0).toI ((A.nthA l (A.nat 0)).cellAt 1).toI ((A.nthA l (A.nat 0)).cellAt 2).toI (0)))) (F (AV.tup [AV.nils,AV.int .i64 0]) (none))
theorem Znv{A:Ar}{K:KT}{F:FT}{M:MT}{ms ks rs l:List AV}{n0:Int}{l1:List Int} :ZaI A tab Bd 24 K F M (.run 6 (.tf (.run 38 (.hd)) (.run 8 (.fn)))) (Zj3 ms ks rs l n0 l1) (ZhW ms ks rs l n0 l1)=ZiJ A K F ms ks rs l n0 l1:=by kernel_rfl
def Zbn(A:Ar)(K:KT)(F:FT)(ms ks rs l:List AV)(n0:Int)(l1:List Int)(n2:Int)(b3:Bool)(n4 n5 n6 n7 n8 n9 n10 n11 n12 n13 n14 n15 n16 n17 n18 n19 n20:Int):Prop:=bB (A.lt n20 n2) (rB [Zaf (Zaf (A.le 0 n20) (Nat.blt (A.nat n20) (A.lenA rs))) true] (qB [Zaf (Nat.blt (A.nat ((A.nthA rs (A.nat n20)).cellAt 3).toI) (A.len l1)) true,Zaf (A.le 0 ((A.nthA rs (A.nat n20)).cellAt 3).toI) (Nat.blt (A.nat ((A.nthA rs (A.nat n20)).cellAt 3).toI) (A.len l1)),Zmj 0 n17 ((A.nthA rs (A.nat n20)).cellAt 1).toI ((A.nthA rs (A.nat n20)).cellAt 2).toI,A.not (A.eq ((A.nthA rs (A.nat n20)).cellAt 3).toI (-1))] (bB (A.not (A.eq (A.nth l1 (A.nat ((A.nthA rs (A.nat n20)).cellAt 3).toI)) (-1))) (rB [A.inR .i64 (A.add n20 1),A.inR .i64 (A.add (A.nth l1 (A.nat ((A.nthA rs (A.nat n20)).cellAt 3).toI)) ((A.nthA rs (A.nat n20)).cellAt 4).toI),Zaf (Nat.blt (A.nat ((A.nthA rs (A.nat n20)).cellAt 3).toI) (A.len l1)) true,Zaf (A.le 0 ((A.nthA rs (A.nat n20)).cellAt 3).toI) (Nat.blt (A.nat ((A.nthA rs (A.nat n20)).cellAt 3).toI) (A.len l1))] (K (Zcz (ms) (ks) (rs) (l) (n0) (l1) (n2) (b3) (n4) (n5) (n6) (n7) (n8) (n9) (n10) (n11) (n12) (n13) (n14) (n15) (A.max n16 (A.add (A.nth l1 (A.nat ((A.nthA rs (A.nat n20)).cellAt 3).toI)) ((A.nthA rs (A.nat n20)).cellAt 4).toI)) (n17) (n18) (n19) (A.add n20 1)))) (rB [A.inR .i64 (A.add n20 1)] (K (Zcz (ms) (ks) (rs) (l) (n0) (l1) (n2) (b3) (n4) (n5) (n6) (n7) (n8) (n9) (n10) (n11) (n12) (n13) (n14) (n15) (n16) (n17) (n18) (n19) (A.add n20 1))))) (qB [!Zmj 0 n17 ((A.nthA rs (A.nat n20)).cellAt 1).toI ((A.nthA rs (A.nat n20)).cellAt 2).toI,A.not (A.eq ((A.nthA rs (A.nat n20)).cellAt 3).toI (-1))] (rB [A.inR .i64 (A.add n20 1)] (K (Zcz (ms) (ks) (rs) (l) (n0) (l1) (n2) (b3) (n4) (n5) (n6) (n7) (n8) (n9) (n10) (n11) (n12) (n13) (n14) (n15) (n16) (n17) (n18) (n19) (A.add n20 1)))) (rB [!A.not (A.eq ((A.nthA rs (A.nat n20)).cellAt 3).toI (-1))] (rB [A.inR .i64 (A.add n20 1)] (K (Zcz (ms) (ks) (rs) (l) (n0) (l1) (n2) (b3) (n4) (n5) (n6) (n7) (n8) (n9) (n10) (n11) (n12) (n13) (n14) (n15) (n16) (n17) (n18) (n19) (A.add n20 1)))))))) (rB [decide (Zae n16 n18 n19=false∨Zba rs n16 l1=true)] (bB (A.not (Zh5 rs 0 n16 l1 n17 n18 n19)) (F (AV.tup [AV.nils,AV.int .i64 12]) (none)) (rB [Zaf (Zaf (A.le 0 n13) (Nat.blt (A.nat n13) (A.lenA ks))) true,Zaf (Nat.blt (A.nat n13) (A.len l1)) true,Zaf (A.le 0 n13) (Nat.blt (A.nat n13) (A.len l1))] (bB (A.not (A.eq ((A.nthA ks (A.nat n13)).cellAt 1).toI (-1))) (rB [A.inR .i64 (A.add 0 1),Zaf (Nat.ble (A.len [n16]) 4294967296) (Nat.blt 0 (A.len [n16])),List.all [AV.int .i64 n16] fun x=>AV.bx x&&Nat.beq (Zai A x) 1] (K (ZdM (ms) (ks) (rs) (l) (n0) (A.add 0 1) ([n16]) (A.set l1 (A.nat n13) n16) ((A.nthA ks (A.nat n13)).cellAt 1).toI (n16)))) (rB [A.inR .i64 (A.add 0 1),Zaf (Nat.ble (A.len [n16]) 4294967296) (Nat.blt 0 (A.len [n16])),List.all [AV.int .i64 n16] fun x=>AV.bx x&&Nat.beq (Zai A x) 1] (K (ZdM (ms) (ks) (rs) (l) (n0) (A.add 0 1) ([n16]) (A.set l1 (A.nat n13) n16) (0) (n16))))))))
theorem Ziq{A:Ar}{K:KT}{F:FT}{M:MT}{ms ks rs l:List AV}{n0:Int}{l1:List Int}{n2:Int}{b3:Bool}{n4 n5 n6 n7 n8 n9 n10 n11 n12 n13 n14 n15 n16 n17 n18 n19 n20:Int} :ZaI A tab Bd 24 K F M (.run 6 (.tf (.run 11 (.alt [true,true] (.run 1 (.tf (.run 8 (.hd)) (.run 8 (.hd)))) (.alt [true,false] (.run 1 (.fy (.run 8 (.hd)))) (.alt [false,false] (.run 1 (.fy (.run 8 (.hd)))) (.no))))) (.run 12 (.tf (.run 6 (.fn)) (.run 21 (.tf (.run 29 (.hd)) (.run 22 (.hd)))))))) (ZeQ ms ks rs l n0 l1 n2 b3 n4 n5 n6 n7 n8 n9 n10 n11 n12 n13 n14 n15 n16 n17 n18 n19 n20) (ZdJ ms ks rs l n0 l1 n2 b3 n4 n5 n6 n7 n8 n9 n10 n11 n12 n13 n14 n15 n16 n17 n18 n19 n20)=Zbn A K F ms ks rs l n0 l1 n2 b3 n4 n5 n6 n7 n8 n9 n10 n11 n12 n13 n14 n15 n16 n17 n18 n19 n20:=by kernel_rfl
def Ze9(A:Ar)(K:KT)(F:FT)(ms ks rs l:List AV)(n0 n21:Int)(l22 l23:List Int)(n24 n25:Int):Prop:=bB (A.lt n21 n0) (rB [Zaf (Zaf (A.le 0 n21) (Nat.blt (A.nat n21) (A.lenA l))) true] (K (ZcC (ms) (ks) (rs) (l) (n0) (n21) (l22) (l23) (n24) (A.int (A.lenA rs)) (A.lt n21 n0) ((A.nthA l (A.nat n21)).cellAt 0).toI ((A.nthA l (A.nat n21)).cellAt 1).toI ((A.nthA l (A.nat n21)).cellAt 2).toI ((A.nthA l (A.nat n21)).cellAt 0).toI ((A.nthA l (A.nat n21)).cellAt 1).toI ((A.nthA l (A.nat n21)).cellAt 2).toI ((A.nthA l (A.nat n21)).cellAt 0).toI ((A.nthA l (A.nat n21)).cellAt 1).toI ((A.nthA l (A.nat n21)).cellAt 2).toI ((A.nthA l (A.nat n21)).cellAt 0).toI ((A.nthA l (A.nat n21)).cellAt 1).toI ((A.nthA l (A.nat n21)).cellAt 2).toI (A.max n25 ((A.nthA l (A.nat n21)).cellAt 1).toI) ((A.nthA l (A.nat n21)).cellAt 0).toI ((A.nthA l (A.nat n21)).cellAt 1).toI ((A.nthA l (A.nat n21)).cellAt 2).toI (0)))) (F (AV.tup [AV.row 0 0,AV.int .i64 0]) (some { e:=3,sz:=1,r:=.ints .i64 l22 }))
theorem ZiN{A:Ar}{K:KT}{F:FT}{M:MT}{ms ks rs l:List AV}{n0 n21:Int}{l22 l23:List Int}{n24 n25:Int} :ZaI A tab Bd 24 K F M (.run 6 (.tf (.run 38 (.hd)) (.run 8 (.fn)))) (ZgV ms ks rs l n0 n21 l22 l23 n24 n25) (Zff ms ks rs l n0 n21 l22 l23 n24 n25)=Ze9 A K F ms ks rs l n0 n21 l22 l23 n24 n25:=by kernel_rfl
def Zbo(A:Ar)(K:KT)(F:FT)(ms ks rs l:List AV)(n0 n21:Int)(l22 l23:List Int)(n24 n26:Int)(b27:Bool)(n28 n29 n30 n31 n32 n33 n34 n35 n36 n37 n38 n39 n40 n41 n42 n43 n44:Int):Prop:=bB (A.lt n44 n26) (rB [Zaf (Zaf (A.le 0 n44) (Nat.blt (A.nat n44) (A.lenA rs))) true] (qB [Zaf (Nat.blt (A.nat ((A.nthA rs (A.nat n44)).cellAt 3).toI) (A.len l23)) true,Zaf (A.le 0 ((A.nthA rs (A.nat n44)).cellAt 3).toI) (Nat.blt (A.nat ((A.nthA rs (A.nat n44)).cellAt 3).toI) (A.len l23)),Zmj n24 n41 ((A.nthA rs (A.nat n44)).cellAt 1).toI ((A.nthA rs (A.nat n44)).cellAt 2).toI,A.not (A.eq ((A.nthA rs (A.nat n44)).cellAt 3).toI (-1))] (bB (A.not (A.eq (A.nth l23 (A.nat ((A.nthA rs (A.nat n44)).cellAt 3).toI)) (-1))) (rB [A.inR .i64 (A.add n44 1),A.inR .i64 (A.add (A.nth l23 (A.nat ((A.nthA rs (A.nat n44)).cellAt 3).toI)) ((A.nthA rs (A.nat n44)).cellAt 4).toI),Zaf (Nat.blt (A.nat ((A.nthA rs (A.nat n44)).cellAt 3).toI) (A.len l23)) true,Zaf (A.le 0 ((A.nthA rs (A.nat n44)).cellAt 3).toI) (Nat.blt (A.nat ((A.nthA rs (A.nat n44)).cellAt 3).toI) (A.len l23))] (K (ZcC (ms) (ks) (rs) (l) (n0) (n21) (l22) (l23) (n24) (n26) (b27) (n28) (n29) (n30) (n31) (n32) (n33) (n34) (n35) (n36) (n37) (n38) (n39) (A.max n40 (A.add (A.nth l23 (A.nat ((A.nthA rs (A.nat n44)).cellAt 3).toI)) ((A.nthA rs (A.nat n44)).cellAt 4).toI)) (n41) (n42) (n43) (A.add n44 1)))) (rB [A.inR .i64 (A.add n44 1)] (K (ZcC (ms) (ks) (rs) (l) (n0) (n21) (l22) (l23) (n24) (n26) (b27) (n28) (n29) (n30) (n31) (n32) (n33) (n34) (n35) (n36) (n37) (n38) (n39) (n40) (n41) (n42) (n43) (A.add n44 1))))) (qB [!Zmj n24 n41 ((A.nthA rs (A.nat n44)).cellAt 1).toI ((A.nthA rs (A.nat n44)).cellAt 2).toI,A.not (A.eq ((A.nthA rs (A.nat n44)).cellAt 3).toI (-1))] (rB [A.inR .i64 (A.add n44 1)] (K (ZcC (ms) (ks) (rs) (l) (n0) (n21) (l22) (l23) (n24) (n26) (b27) (n28) (n29) (n30) (n31) (n32) (n33) (n34) (n35) (n36) (n37) (n38) (n39) (n40) (n41) (n42) (n43) (A.add n44 1)))) (rB [!A.not (A.eq ((A.nthA rs (A.nat n44)).cellAt 3).toI (-1))] (rB [A.inR .i64 (A.add n44 1)] (K (ZcC (ms) (ks) (rs) (l) (n0) (n21) (l22) (l23) (n24) (n26) (b27) (n28) (n29) (n30) (n31) (n32) (n33) (n34) (n35) (n36) (n37) (n38) (n39) (n40) (n41) (n42) (n43) (A.add n44 1)))))))) (rB [decide (Zae n40 n42 n43=false∨Zba rs n40 l23=true)] (bB (A.not (Zh5 rs n24 n40 l23 n41 n42 n43)) (F (AV.tup [AV.nils,AV.int .i64 12]) (none)) (rB [Zaf (Zaf (A.le 0 n37) (Nat.blt (A.nat n37) (A.lenA ks))) true,Zaf (Nat.blt (A.nat n37) (A.len l23)) true,Zaf (A.le 0 n37) (Nat.blt (A.nat n37) (A.len l23))] (bB (A.not (A.eq ((A.nthA ks (A.nat n37)).cellAt 1).toI (-1))) (rB [A.inR .i64 (A.add n21 1),Nat.ble (A.len l22+A.len [n40]) 4294967296,List.all [AV.int .i64 n40] fun x=>AV.bx x&&Nat.beq (Zai A x) 1] (K (ZdM (ms) (ks) (rs) (l) (n0) (A.add n21 1) (A.app l22 [n40]) (A.set l23 (A.nat n37) n40) ((A.nthA ks (A.nat n37)).cellAt 1).toI (n40)))) (rB [A.inR .i64 (A.add n21 1),Nat.ble (A.len l22+A.len [n40]) 4294967296,List.all [AV.int .i64 n40] fun x=>AV.bx x&&Nat.beq (Zai A x) 1] (K (ZdM (ms) (ks) (rs) (l) (n0) (A.add n21 1) (A.app l22 [n40]) (A.set l23 (A.nat n37) n40) (n24) (n40))))))))
theorem ZiB{A:Ar}{K:KT}{F:FT}{M:MT}{ms ks rs l:List AV}{n0 n21:Int}{l22 l23:List Int}{n24 n26:Int}{b27:Bool}{n28 n29 n30 n31 n32 n33 n34 n35 n36 n37 n38 n39 n40 n41 n42 n43 n44:Int} :ZaI A tab Bd 24 K F M (.run 6 (.tf (.run 11 (.alt [true,true] (.run 1 (.tf (.run 8 (.hd)) (.run 8 (.hd)))) (.alt [true,false] (.run 1 (.fy (.run 8 (.hd)))) (.alt [false,false] (.run 1 (.fy (.run 8 (.hd)))) (.no))))) (.run 12 (.tf (.run 6 (.fn)) (.run 21 (.tf (.run 29 (.hd)) (.run 22 (.hd)))))))) (ZeH ms ks rs l n0 n21 l22 l23 n24 n26 b27 n28 n29 n30 n31 n32 n33 n34 n35 n36 n37 n38 n39 n40 n41 n42 n43 n44) (ZdW ms ks rs l n0 n21 l22 l23 n24 n26 b27 n28 n29 n30 n31 n32 n33 n34 n35 n36 n37 n38 n39 n40 n41 n42 n43 n44)=Zbo A K F ms ks rs l n0 n21 l22 l23 n24 n26 b27 n28 n29 n30 n31 n32 n33 n34 n35 n36 n37 n38 n39 n40 n41 n42 n43 n44:=by kernel_rfl
def Zyw(ms ks rs l:List AV):AFrame:={ fn:=27,N:=42,env:=[(0,AV.agg (Row.gen [.list (Row.big .str ms), .list (Row.big (.agg [.str, .int .i64]) ks), .list (Row.big (.agg [.str, .int .i64, .int .i64, .int .i64, .int .i64]) rs)])),(1,AV.list (Row.big (.agg [.int .i64, .int .i64, .int .i64]) l))],todo:=[.code a27.code],defs:=[],rnd:=none,ret:=false,res:=[ARes.tmp 4,ARes.tmp 5] }
def ZEG(ms ks rs l:List AV):List AFrame:=[(Zyw ms ks rs l)]
theorem Zul(ms ks rs l:List AV):Zat tab 27 [AV.agg (Row.gen [.list (Row.big .str ms), .list (Row.big (.agg [.str, .int .i64]) ks), .list (Row.big (.agg [.str, .int .i64, .int .i64, .int .i64, .int .i64]) rs)]),AV.list (Row.big (.agg [.int .i64, .int .i64, .int .i64]) l)]=some (Zyw ms ks rs l):=rfl
def ZjG(ms ks rs l:List AV)(n0:Int)(l1:List Int):List AFrame:=[{ fn:=27,N:=42,env:=[(8,AV.ptr 72012 0 0 0),(9,AV.nils),(23,AV.list (Row.big (.agg [.int .i64, .int .i64, .int .i64]) l)),(24,AV.int .i64 n0),(25,AV.int .i64 0)],todo:=.code (ACode.gh [] ZvF)::Zym,defs:=[],rnd:=none,ret:=false,res:=[ARes.tmp 4,ARes.tmp 5] }]
def Zir(ms ks rs l:List AV)(n0:Int)(l1:List Int):Zab:=[(72009,{ base:=0,blks:=[Blk.row 3 1 (.ints .i64 l1)] }),(72012,{ base:=0,blks:=[Blk.row 137 6 (Row.gen [AV.agg (Row.gen [AV.list (Row.big .str ms),AV.list (Row.big (.agg [.str, .int .i64]) ks),AV.list (Row.big (.agg [.str, .int .i64, .int .i64, .int .i64, .int .i64]) rs),AV.int .i64 0,AV.int .i64 0,AV.row 72009 0])])] })]
abbrev Zni(ms ks rs l:List AV)(n0:Int)(l1:List Int):List AFrame×Zab:=(ZjG ms ks rs l n0 l1,Zir ms ks rs l n0 l1)
def Zg9(ms ks rs l:List AV)(n0 n2:Int)(l3 l4:List Int)(n5:Int):List AFrame:=[{ fn:=27,N:=42,env:=[(8,AV.ptr 72012 0 0 0),(9,AV.row 27040 0),(23,AV.list (Row.big (.agg [.int .i64, .int .i64, .int .i64]) l)),(24,AV.int .i64 n0),(25,AV.int .i64 n2)],todo:=.code (ACode.gh [] ZvF)::Zym,defs:=[],rnd:=none,ret:=false,res:=[ARes.tmp 4,ARes.tmp 5] }]
def Zfl(ms ks rs l:List AV)(n0 n2:Int)(l3 l4:List Int)(n5:Int):Zab:=[(27040,{ base:=0,blks:=[Blk.row 3 1 (.ints .i64 l3)] }),(72009,{ base:=0,blks:=[Blk.row 3 1 (.ints .i64 l4)] }),(72012,{ base:=0,blks:=[Blk.row 137 6 (Row.gen [AV.agg (Row.gen [AV.list (Row.big .str ms),AV.list (Row.big (.agg [.str, .int .i64]) ks),AV.list (Row.big (.agg [.str, .int .i64, .int .i64, .int .i64, .int .i64]) rs),AV.int .i64 n5,AV.int .i64 0,AV.row 72009 0])])] })]
abbrev ZdL(ms ks rs l:List AV)(n0 n2:Int)(l3 l4:List Int)(n5:Int):List AFrame×Zab:=(Zg9 ms ks rs l n0 n2 l3 l4 n5,Zfl ms ks rs l n0 n2 l3 l4 n5)
def Ztz(A:Ar)(K:KT)(F:FT)(ms ks rs l:List AV):Prop:=rB [decide (ZaB ms ks rs=true∧List.length l≤1000000)] (bB (A.not (A.eq (Zdq (ZaJ ms ks rs) (↑(List.length ks)) l) 0)) (F (AV.tup [AV.nils,AV.int .i64 (Zdq (ZaJ ms ks rs) (↑(List.length ks)) l)]) (none)) (rB [decide ([-1]=[-1]∧0≤A.int (A.lenA ks)∧A.int (A.lenA ks)≤8),List.all [AV.int .i64 (-1)] fun x=>AV.bx x&&Nat.beq (Zai A x) 1] (K (Zni (ms) (ks) (rs) (l) (A.int (A.lenA l)) (List.replicate (Int.toNat (A.int (A.lenA ks))) (-1))))))
theorem ZCy{A:Ar}{K:KT}{F:FT}{M:MT}{ms ks rs l:List AV} :ZaI A tab Bd 27 K F M (.run 24 (.tf (.run 7 (.fn)) (.run 31 (.hd)))) (ZEG ms ks rs l) []=Ztz A K F ms ks rs l:=by kernel_rfl
def Ze2(A:Ar)(K:KT)(F:FT)(ms ks rs l:List AV)(n0:Int)(l1:List Int):Prop:=bB (A.lt 0 n0) (rB [Zaf (Zaf (A.le 0 ((A.nthA l (A.nat 0)).cellAt 0).toI) (Nat.blt (A.nat ((A.nthA l (A.nat 0)).cellAt 0).toI) (A.lenA ks))) true,Zaf (Nat.blt (A.nat ((A.nthA l (A.nat 0)).cellAt 0).toI) (A.len l1)) true,Zaf (A.le 0 ((A.nthA l (A.nat 0)).cellAt 0).toI) (Nat.blt (A.nat ((A.nthA l (A.nat 0)).cellAt 0).toI) (A.len l1)),Zaf (Zaf (A.le 0 0) (Nat.blt (A.nat 0) (A.lenA l))) true] (bB (A.not (A.eq ((A.nthA ks (A.nat ((A.nthA l (A.nat 0)).cellAt 0).toI)).cellAt 1).toI (-1))) (rB [A.inR .i64 (A.add 0 1),Zaf (Nat.ble (A.len [AV.toI (AV.cellAt (A.nthA ks (A.nat ((A.nthA l (A.nat 0)).cellAt 0).toI)) 1)]) 4294967296) (Nat.blt 0 (A.len [AV.toI (AV.cellAt (A.nthA ks (A.nat ((A.nthA l (A.nat 0)).cellAt 0).toI)) 1)])),List.all [AV.int .i64 ((A.nthA ks (A.nat ((A.nthA l (A.nat 0)).cellAt 0).toI)).cellAt 1).toI] fun x=>AV.bx x&&Nat.beq (Zai A x) 1] (K (ZdL (ms) (ks) (rs) (l) (n0) (A.add 0 1) ([AV.toI (AV.cellAt (A.nthA ks (A.nat ((A.nthA l (A.nat 0)).cellAt 0).toI)) 1)]) (A.set l1 (A.nat ((A.nthA l (A.nat 0)).cellAt 0).toI) 0) ((A.nthA ks (A.nat ((A.nthA l (A.nat 0)).cellAt 0).toI)).cellAt 1).toI))) (rB [A.inR .i64 (A.add 0 1),Zaf (Nat.ble (A.len [0]) 4294967296) (Nat.blt 0 (A.len [0])),List.all [AV.int .i64 0] fun x=>AV.bx x&&Nat.beq (Zai A x) 1] (K (ZdL (ms) (ks) (rs) (l) (n0) (A.add 0 1) ([0]) (A.set l1 (A.nat ((A.nthA l (A.nat 0)).cellAt 0).toI) 0) (0)))))) (F (AV.tup [AV.nils,AV.int .i64 0]) (none))
theorem Znd{A:Ar}{K:KT}{F:FT}{M:MT}{ms ks rs l:List AV}{n0:Int}{l1:List Int} :ZaI A tab Bd 27 K F M (.run 6 (.tf (.run 30 (.tf (.run 29 (.hd)) (.run 22 (.hd)))) (.run 8 (.fn)))) (ZjG ms ks rs l n0 l1) (Zir ms ks rs l n0 l1)=Ze2 A K F ms ks rs l n0 l1:=by kernel_rfl
def ZdS(A:Ar)(K:KT)(F:FT)(ms ks rs l:List AV)(n0 n2:Int)(l3 l4:List Int)(n5:Int):Prop:=bB (A.lt n2 n0) (rB [Zaf (Zaf (A.le 0 ((A.nthA l (A.nat n2)).cellAt 0).toI) (Nat.blt (A.nat ((A.nthA l (A.nat n2)).cellAt 0).toI) (A.lenA ks))) true,Zaf (Nat.blt (A.nat ((A.nthA l (A.nat n2)).cellAt 0).toI) (A.len l4)) true,Zaf (A.le 0 ((A.nthA l (A.nat n2)).cellAt 0).toI) (Nat.blt (A.nat ((A.nthA l (A.nat n2)).cellAt 0).toI) (A.len l4)),Zaf (Zaf (A.le 0 n2) (Nat.blt (A.nat n2) (A.lenA l))) true] (bB (A.not (A.eq ((A.nthA ks (A.nat ((A.nthA l (A.nat n2)).cellAt 0).toI)).cellAt 1).toI (-1))) (rB [A.inR .i64 (A.add n2 1),Nat.ble (A.len l3+A.len [AV.toI (AV.cellAt (A.nthA ks (A.nat ((A.nthA l (A.nat n2)).cellAt 0).toI)) 1)]) 4294967296,List.all [AV.int .i64 ((A.nthA ks (A.nat ((A.nthA l (A.nat n2)).cellAt 0).toI)).cellAt 1).toI] fun x=>AV.bx x&&Nat.beq (Zai A x) 1] (K (ZdL (ms) (ks) (rs) (l) (n0) (A.add n2 1) (A.app l3 [AV.toI (AV.cellAt (A.nthA ks (A.nat ((A.nthA l (A.nat n2)).cellAt 0).toI)) 1)]) (A.set l4 (A.nat ((A.nthA l (A.nat n2)).cellAt 0).toI) 0) ((A.nthA ks (A.nat ((A.nthA l (A.nat n2)).cellAt 0).toI)).cellAt 1).toI))) (rB [A.inR .i64 (A.add n2 1),Nat.ble (A.len l3+A.len [n5]) 4294967296,List.all [AV.int .i64 n5] fun x=>AV.bx x&&Nat.beq (Zai A x) 1] (K (ZdL (ms) (ks) (rs) (l) (n0) (A.add n2 1) (A.app l3 [n5]) (A.set l4 (A.nat ((A.nthA l (A.nat n2)).cellAt 0).toI) 0) (n5)))))) (F (AV.tup [AV.row 0 0,AV.int .i64 0]) (some { e:=3,sz:=1,r:=.ints .i64 l3 }))
theorem Zil{A:Ar}{K:KT}{F:FT}{M:MT}{ms ks rs l:List AV}{n0 n2:Int}{l3 l4:List Int}{n5:Int} :ZaI A tab Bd 27 K F M (.run 6 (.tf (.run 30 (.tf (.run 29 (.hd)) (.run 22 (.hd)))) (.run 8 (.fn)))) (Zg9 ms ks rs l n0 n2 l3 l4 n5) (Zfl ms ks rs l n0 n2 l3 l4 n5)=ZdS A K F ms ks rs l n0 n2 l3 l4 n5:=by kernel_rfl
def ZyI(ms ks rs l:List AV):AFrame:={ fn:=30,N:=30,env:=[(0,AV.agg (Row.gen [.list (Row.big .str ms), .list (Row.big (.agg [.str, .int .i64]) ks), .list (Row.big (.agg [.str, .int .i64, .int .i64, .int .i64, .int .i64]) rs)])),(1,AV.list (Row.big (.agg [.int .i64, .int .i64, .int .i64]) l))],todo:=[.code a30.code],defs:=[],rnd:=none,ret:=false,res:=[ARes.tmp 4] }
def ZGr(ms ks rs l:List AV):List AFrame:=[(ZyI ms ks rs l)]
theorem Zvh(ms ks rs l:List AV):Zat tab 30 [AV.agg (Row.gen [.list (Row.big .str ms), .list (Row.big (.agg [.str, .int .i64]) ks), .list (Row.big (.agg [.str, .int .i64, .int .i64, .int .i64, .int .i64]) rs)]),AV.list (Row.big (.agg [.int .i64, .int .i64, .int .i64]) l)]=some (ZyI ms ks rs l):=rfl
def Zka(ms ks rs l:List AV)(l0:List Int):List AFrame:=[{ fn:=30,N:=30,env:=[(1,AV.list (Row.big (.agg [.int .i64, .int .i64, .int .i64]) l)),(2,AV.ptr 30003 0 0 0),(5,AV.nils),(6,AV.ptr 30007 0 0 0),(7,AV.int .i64 0)],todo:=.code (ACode.gh [] ZsN)::ZwG,defs:=[],rnd:=none,ret:=false,res:=[ARes.tmp 4] }]
def ZiG(ms ks rs l:List AV)(l0:List Int):Zab:=[(30003,{ base:=0,blks:=[Blk.row 26 3 (Row.gen [AV.agg (Row.gen [AV.list (Row.big .str ms),AV.list (Row.big (.agg [.str, .int .i64]) ks),AV.list (Row.big (.agg [.str, .int .i64, .int .i64, .int .i64, .int .i64]) rs)])])] }),(30007,{ base:=0,blks:=[Blk.row 76 3 (Row.gen [AV.agg (Row.gen [AV.int .i64 0,AV.int .i64 0,AV.list (.ints .i64 l0)])])] })]
abbrev ZnA(ms ks rs l:List AV)(l0:List Int):List AFrame×Zab:=(Zka ms ks rs l l0,ZiG ms ks rs l l0)
def ZgP(ms ks rs l:List AV)(n1 n2:Int)(l3 l4:List Int):List AFrame:=[{ fn:=30,N:=30,env:=[(1,AV.list (Row.big (.agg [.int .i64, .int .i64, .int .i64]) l)),(2,AV.ptr 30003 0 0 0),(5,AV.row 30029 0),(6,AV.ptr 30007 0 0 0),(7,AV.int .i64 n1)],todo:=.code (ACode.gh [] ZsN)::ZwG,defs:=[],rnd:=none,ret:=false,res:=[ARes.tmp 4] }]
def Zfc(ms ks rs l:List AV)(n1 n2:Int)(l3 l4:List Int):Zab:=[(30003,{ base:=0,blks:=[Blk.row 26 3 (Row.gen [AV.agg (Row.gen [AV.list (Row.big .str ms),AV.list (Row.big (.agg [.str, .int .i64]) ks),AV.list (Row.big (.agg [.str, .int .i64, .int .i64, .int .i64, .int .i64]) rs)])])] }),(30007,{ base:=0,blks:=[Blk.row 76 3 (Row.gen [AV.agg (Row.gen [AV.int .i64 n2,AV.int .i64 0,AV.list (.ints .i64 l3)])])] }),(30029,{ base:=0,blks:=[Blk.row 3 1 (.ints .i64 l4)] })]
abbrev Zis(ms ks rs l:List AV)(n1 n2:Int)(l3 l4:List Int):List AFrame×Zab:=(ZgP ms ks rs l n1 n2 l3 l4,Zfc ms ks rs l n1 n2 l3 l4)
def ZyQ(A:Ar)(K:KT)(F:FT)(ms ks rs l:List AV):Prop:=rB [decide (List.length ks≤1000000)] (K (ZnA (ms) (ks) (rs) (l) (List.replicate (List.length ks) (-1))))
theorem ZBD{A:Ar}{K:KT}{F:FT}{M:MT}{ms ks rs l:List AV} :ZaI A tab Bd 30 K F M (.run 24 (.hd)) (ZGr ms ks rs l) []=ZyQ A K F ms ks rs l:=by kernel_rfl
def ZhV(A:Ar)(K:KT)(F:FT)(ms ks rs l:List AV)(l0:List Int):Prop:=bB (A.lt 0 (A.int (A.lenA l))) (rB [A.inR .i64 (A.add 0 1),Zaf (Nat.ble (A.len [exM ks 0 ((A.nthA l (A.nat 0)).cellAt 0).toI]) 4294967296) (Nat.blt 0 (A.len [exM ks 0 ((A.nthA l (A.nat 0)).cellAt 0).toI])),List.all [AV.int .i64 (exM ks 0 ((A.nthA l (A.nat 0)).cellAt 0).toI)] fun x=>AV.bx x&&Nat.beq (Zai A x) 1,decide (List.length l0≤1000000∧0≤AV.toI (AV.cellAt (A.nthA l (A.nat 0)) 0)∧AV.toI (AV.cellAt (A.nthA l (A.nat 0)) 0)< ↑(List.length ks)∧AV.toI (AV.cellAt (A.nthA l (A.nat 0)) 0)< ↑(List.length l0)),Zaf (Zaf (A.le 0 0) (Nat.blt (A.nat 0) (A.lenA l))) true] (K (Zis (ms) (ks) (rs) (l) (A.add 0 1) (exM ks 0 ((A.nthA l (A.nat 0)).cellAt 0).toI) (List.set l0 (Int.toNat ((A.nthA l (A.nat 0)).cellAt 0).toI) 0) ([exM ks 0 ((A.nthA l (A.nat 0)).cellAt 0).toI])))) (F (AV.nils) (none))
theorem Znw{A:Ar}{K:KT}{F:FT}{M:MT}{ms ks rs l:List AV}{l0:List Int} :ZaI A tab Bd 30 K F M (.run 9 (.tf (.run 22 (.hd)) (.run 7 (.fn)))) (Zka ms ks rs l l0) (ZiG ms ks rs l l0)=ZhV A K F ms ks rs l l0:=by kernel_rfl
def ZfC(A:Ar)(K:KT)(F:FT)(ms ks rs l:List AV)(n1 n2:Int)(l3 l4:List Int):Prop:=bB (A.lt n1 (A.int (A.lenA l))) (rB [A.inR .i64 (A.add n1 1),Nat.ble (A.len l4+A.len [exM ks n2 ((A.nthA l (A.nat n1)).cellAt 0).toI]) 4294967296,List.all [AV.int .i64 (exM ks n2 ((A.nthA l (A.nat n1)).cellAt 0).toI)] fun x=>AV.bx x&&Nat.beq (Zai A x) 1,decide (List.length l3≤1000000∧0≤AV.toI (AV.cellAt (A.nthA l (A.nat n1)) 0)∧AV.toI (AV.cellAt (A.nthA l (A.nat n1)) 0)< ↑(List.length ks)∧AV.toI (AV.cellAt (A.nthA l (A.nat n1)) 0)< ↑(List.length l3)),Zaf (Zaf (A.le 0 n1) (Nat.blt (A.nat n1) (A.lenA l))) true] (K (Zis (ms) (ks) (rs) (l) (A.add n1 1) (exM ks n2 ((A.nthA l (A.nat n1)).cellAt 0).toI) (List.set l3 (Int.toNat ((A.nthA l (A.nat n1)).cellAt 0).toI) 0) (A.app l4 [exM ks n2 ((A.nthA l (A.nat n1)).cellAt 0).toI])))) (F (AV.row 0 0) (some { e:=3,sz:=1,r:=.ints .i64 l4 }))
theorem ZhN{A:Ar}{K:KT}{F:FT}{M:MT}{ms ks rs l:List AV}{n1 n2:Int}{l3 l4:List Int} :ZaI A tab Bd 30 K F M (.run 9 (.tf (.run 22 (.hd)) (.run 7 (.fn)))) (ZgP ms ks rs l n1 n2 l3 l4) (Zfc ms ks rs l n1 n2 l3 l4)=ZfC A K F ms ks rs l n1 n2 l3 l4:=by kernel_rfl
def Zrx(ms ks rs:List AV)(a b:Int)(xs:List Int)(c d e:Int):AFrame:={ fn:=124,N:=115,env:=[(0,AV.agg (Row.gen [.list (Row.big .str ms), .list (Row.big (.agg [.str, .int .i64]) ks), .list (Row.big (.agg [.str, .int .i64, .int .i64, .int .i64, .int .i64]) rs)])),(1,AV.agg (Row.gen [.int .i64 a, .int .i64 b, .list (.ints .i64 xs)])),(2,AV.agg (Row.gen [.int .i64 c, .int .i64 d, .int .i64 e]))],todo:=[.code a124.code],defs:=[],rnd:=none,ret:=false,res:=[ARes.tmp 6,ARes.tmp 7] }
def ZBu(ms ks rs:List AV)(a b:Int)(xs:List Int)(c d e:Int):List AFrame:=[(Zrx ms ks rs a b xs c d e)]
theorem Zqj(ms ks rs:List AV)(a b:Int)(xs:List Int)(c d e:Int):Zat tab 124 [AV.agg (Row.gen [.list (Row.big .str ms), .list (Row.big (.agg [.str, .int .i64]) ks), .list (Row.big (.agg [.str, .int .i64, .int .i64, .int .i64, .int .i64]) rs)]),AV.agg (Row.gen [.int .i64 a, .int .i64 b, .list (.ints .i64 xs)]),AV.agg (Row.gen [.int .i64 c, .int .i64 d, .int .i64 e])]=some (Zrx ms ks rs a b xs c d e):=rfl
def Zec(ms ks rs:List AV)(a b:Int)(xs:List Int)(c d e:Int)(l0:List Int)(n1:Int):List AFrame:=[{ fn:=124,N:=115,env:=[(3,AV.ptr 124004 0 0 0),(4,AV.ptr 124005 0 0 0),(5,AV.ptr 124006 0 0 0),(8,AV.row 124021 0),(9,AV.int .i64 n1)],todo:=.code (ACode.gh [] Zov)::Zrz,defs:=[],rnd:=none,ret:=false,res:=[ARes.tmp 6,ARes.tmp 7] }]
def Zdg(ms ks rs:List AV)(a b:Int)(xs:List Int)(c d e:Int)(l0:List Int)(n1:Int):Zab:=[(124004,{ base:=0,blks:=[Blk.row 26 3 (Row.gen [AV.agg (Row.gen [AV.list (Row.big .str ms),AV.list (Row.big (.agg [.str, .int .i64]) ks),AV.list (Row.big (.agg [.str, .int .i64, .int .i64, .int .i64, .int .i64]) rs)])])] }),(124005,{ base:=0,blks:=[Blk.row 76 3 (Row.gen [AV.agg (Row.gen [AV.int .i64 a,AV.int .i64 b,AV.list (.ints .i64 xs)])])] }),(124006,{ base:=0,blks:=[Blk.row 82 3 (Row.gen [AV.agg (Row.gen [AV.int .i64 c,AV.int .i64 d,AV.int .i64 e])])] }),(124021,{ base:=0,blks:=[Blk.row 3 1 (.ints .i64 l0)] })]
abbrev Zdx(ms ks rs:List AV)(a b:Int)(xs:List Int)(c d e:Int)(l0:List Int)(n1:Int):List AFrame×Zab:=(Zec ms ks rs a b xs c d e l0 n1,Zdg ms ks rs a b xs c d e l0 n1)
def Zer(ms ks rs:List AV)(a b:Int)(xs:List Int)(c d e n2:Int)(l3:List Int):List AFrame:=[{ fn:=124,N:=115,env:=[(3,AV.ptr 124004 0 0 0),(4,AV.ptr 124005 0 0 0),(5,AV.ptr 124006 0 0 0),(8,AV.row 124057 0),(9,AV.int .i64 n2)],todo:=.code (ACode.gh [] Zov)::Zrz,defs:=[],rnd:=none,ret:=false,res:=[ARes.tmp 6,ARes.tmp 7] }]
def ZdC(ms ks rs:List AV)(a b:Int)(xs:List Int)(c d e n2:Int)(l3:List Int):Zab:=[(124004,{ base:=0,blks:=[Blk.row 26 3 (Row.gen [AV.agg (Row.gen [AV.list (Row.big .str ms),AV.list (Row.big (.agg [.str, .int .i64]) ks),AV.list (Row.big (.agg [.str, .int .i64, .int .i64, .int .i64, .int .i64]) rs)])])] }),(124005,{ base:=0,blks:=[Blk.row 76 3 (Row.gen [AV.agg (Row.gen [AV.int .i64 a,AV.int .i64 b,AV.list (.ints .i64 xs)])])] }),(124006,{ base:=0,blks:=[Blk.row 82 3 (Row.gen [AV.agg (Row.gen [AV.int .i64 c,AV.int .i64 d,AV.int .i64 e])])] }),(124057,{ base:=0,blks:=[Blk.row 3 1 (.ints .i64 l3)] })]
abbrev Zcp(ms ks rs:List AV)(a b:Int)(xs:List Int)(c d e n2:Int)(l3:List Int):List AFrame×Zab:=(Zer ms ks rs a b xs c d e n2 l3,ZdC ms ks rs a b xs c d e n2 l3)
def ZcQ(ms ks rs:List AV)(a b:Int)(xs:List Int)(c d e:Int)(l0:List Int)(n4:Int)(b5:Bool)(n6:Int):List AFrame:=[{ fn:=124,N:=115,env:=[(3,AV.ptr 124004 0 0 0),(4,AV.ptr 124005 0 0 0),(5,AV.ptr 124006 0 0 0),(8,AV.row 124021 0),(11,AV.int .i64 n4),(12,AV.bool b5),(13,AV.int .i64 n6)],todo:=.code (ACode.gh [] Zpb)::Zsw,defs:=[],rnd:=none,ret:=false,res:=[ARes.tmp 6,ARes.tmp 7] }]
def Zcq(ms ks rs:List AV)(a b:Int)(xs:List Int)(c d e:Int)(l0:List Int)(n4:Int)(b5:Bool)(n6:Int):Zab:=[(124004,{ base:=0,blks:=[Blk.row 26 3 (Row.gen [AV.agg (Row.gen [AV.list (Row.big .str ms),AV.list (Row.big (.agg [.str, .int .i64]) ks),AV.list (Row.big (.agg [.str, .int .i64, .int .i64, .int .i64, .int .i64]) rs)])])] }),(124005,{ base:=0,blks:=[Blk.row 76 3 (Row.gen [AV.agg (Row.gen [AV.int .i64 a,AV.int .i64 b,AV.list (.ints .i64 xs)])])] }),(124006,{ base:=0,blks:=[Blk.row 82 3 (Row.gen [AV.agg (Row.gen [AV.int .i64 c,AV.int .i64 d,AV.int .i64 e])])] }),(124021,{ base:=0,blks:=[Blk.row 3 1 (.ints .i64 l0)] })]
abbrev Zbb(ms ks rs:List AV)(a b:Int)(xs:List Int)(c d e:Int)(l0:List Int)(n4:Int)(b5:Bool)(n6:Int):List AFrame×Zab:=(ZcQ ms ks rs a b xs c d e l0 n4 b5 n6,Zcq ms ks rs a b xs c d e l0 n4 b5 n6)
def ZcP(ms ks rs:List AV)(a b:Int)(xs:List Int)(c d e:Int)(l3:List Int)(n7:Int)(b8:Bool)(n9:Int):List AFrame:=[{ fn:=124,N:=115,env:=[(3,AV.ptr 124004 0 0 0),(4,AV.ptr 124005 0 0 0),(5,AV.ptr 124006 0 0 0),(8,AV.row 124057 0),(11,AV.int .i64 n7),(12,AV.bool b8),(13,AV.int .i64 n9)],todo:=.code (ACode.gh [] Zpb)::Zsw,defs:=[],rnd:=none,ret:=false,res:=[ARes.tmp 6,ARes.tmp 7] }]
def Zcm(ms ks rs:List AV)(a b:Int)(xs:List Int)(c d e:Int)(l3:List Int)(n7:Int)(b8:Bool)(n9:Int):Zab:=[(124004,{ base:=0,blks:=[Blk.row 26 3 (Row.gen [AV.agg (Row.gen [AV.list (Row.big .str ms),AV.list (Row.big (.agg [.str, .int .i64]) ks),AV.list (Row.big (.agg [.str, .int .i64, .int .i64, .int .i64, .int .i64]) rs)])])] }),(124005,{ base:=0,blks:=[Blk.row 76 3 (Row.gen [AV.agg (Row.gen [AV.int .i64 a,AV.int .i64 b,AV.list (.ints .i64 xs)])])] }),(124006,{ base:=0,blks:=[Blk.row 82 3 (Row.gen [AV.agg (Row.gen [AV.int .i64 c,AV.int .i64 d,AV.int .i64 e])])] }),(124057,{ base:=0,blks:=[Blk.row 3 1 (.ints .i64 l3)] })]
abbrev Zbc(ms ks rs:List AV)(a b:Int)(xs:List Int)(c d e:Int)(l3:List Int)(n7:Int)(b8:Bool)(n9:Int):List AFrame×Zab:=(ZcP ms ks rs a b xs c d e l3 n7 b8 n9,Zcm ms ks rs a b xs c d e l3 n7 b8 n9)
def ZrP(A:Ar)(K:KT)(F:FT)(ms ks rs:List AV)(a b:Int)(xs:List Int)(c d e:Int):Prop:=rB [List.all [AV.int .i64 b,AV.int .i64 d] fun x=>AV.bx x&&Nat.beq (Zai A x) 1] (K (Zdx (ms) (ks) (rs) (a) (b) (xs) (c) (d) (e) ([b,d]) (0)))
theorem ZAv{A:Ar}{K:KT}{F:FT}{M:MT}{ms ks rs:List AV}{a b:Int}{xs:List Int}{c d e:Int} :ZaI A tab Bd 124 K F M (.run 27 (.hd)) (ZBu ms ks rs a b xs c d e) []=ZrP A K F ms ks rs a b xs c d e:=by kernel_rfl
def ZbN(A:Ar)(K:KT)(F:FT)(ms ks rs:List AV)(a b:Int)(xs:List Int)(c d e:Int)(l0:List Int)(n1:Int):Prop:=bB (A.lt n1 (A.int (A.lenA rs))) (rB [Zaf (Zaf (A.le 0 n1) (Nat.blt (A.nat n1) (A.lenA rs))) true] (bB (A.not (A.eq ((A.nthA rs (A.nat n1)).cellAt 3).toI (-1))) (rB [Zaf (Zaf (A.le 0 ((A.nthA rs (A.nat n1)).cellAt 3).toI) (Nat.blt (A.nat ((A.nthA rs (A.nat n1)).cellAt 3).toI) (A.len xs))) true] (bB (A.not (A.eq (A.nth xs (A.nat ((A.nthA rs (A.nat n1)).cellAt 3).toI)) (-1))) (rB [A.inR .i64 (A.add n1 1),Nat.ble (A.len l0+A.len [A.add (A.nth xs (A.nat ((A.nthA rs (A.nat n1)).cellAt 3).toI)) ((A.nthA rs (A.nat n1)).cellAt 4).toI]) 4294967296,List.all [AV.int .i64 (A.add (A.nth xs (A.nat ((A.nthA rs (A.nat n1)).cellAt 3).toI)) ((A.nthA rs (A.nat n1)).cellAt 4).toI)] fun x=>AV.bx x&&Nat.beq (Zai A x) 1,A.inR .i64 (A.add (A.nth xs (A.nat ((A.nthA rs (A.nat n1)).cellAt 3).toI)) ((A.nthA rs (A.nat n1)).cellAt 4).toI),Zaf (Zaf (A.le 0 ((A.nthA rs (A.nat n1)).cellAt 3).toI) (Nat.blt (A.nat ((A.nthA rs (A.nat n1)).cellAt 3).toI) (A.len xs))) true] (K (Zcp (ms) (ks) (rs) (a) (b) (xs) (c) (d) (e) (A.add n1 1) (A.app l0 [A.add (A.nth xs (A.nat ((A.nthA rs (A.nat n1)).cellAt 3).toI)) ((A.nthA rs (A.nat n1)).cellAt 4).toI])))) (rB [A.inR .i64 (A.add n1 1)] (K (Zdx (ms) (ks) (rs) (a) (b) (xs) (c) (d) (e) (l0) (A.add n1 1)))))) (rB [A.inR .i64 (A.add n1 1)] (K (Zdx (ms) (ks) (rs) (a) (b) (xs) (c) (d) (e) (l0) (A.add n1 1)))))) (K (Zbb (ms) (ks) (rs) (a) (b) (xs) (c) (d) (e) (l0) (0) (false) (0)))
theorem Zf8{A:Ar}{K:KT}{F:FT}{M:MT}{ms ks rs:List AV}{a b:Int}{xs:List Int}{c d e:Int}{l0:List Int}{n1:Int} :ZaI A tab Bd 124 K F M (.run 10 (.tf (.run 19 (.tf (.ty (.ty (.ty (.ty (.ty (.ty (.ty (.run 2 (.tf (.run 9 (.hd)) (.run 9 (.hd))))))))))) (.fy (.fy (.fy (.fy (.fy (.fy (.fy (.run 2 (.fy (.run 9 (.hd))))))))))))) (.run 14 (.hd)))) (Zec ms ks rs a b xs c d e l0 n1) (Zdg ms ks rs a b xs c d e l0 n1)=ZbN A K F ms ks rs a b xs c d e l0 n1:=by kernel_rfl
def ZbQ(A:Ar)(K:KT)(F:FT)(ms ks rs:List AV)(a b:Int)(xs:List Int)(c d e n2:Int)(l3:List Int):Prop:=bB (A.lt n2 (A.int (A.lenA rs))) (rB [Zaf (Zaf (A.le 0 n2) (Nat.blt (A.nat n2) (A.lenA rs))) true] (bB (A.not (A.eq ((A.nthA rs (A.nat n2)).cellAt 3).toI (-1))) (rB [Zaf (Zaf (A.le 0 ((A.nthA rs (A.nat n2)).cellAt 3).toI) (Nat.blt (A.nat ((A.nthA rs (A.nat n2)).cellAt 3).toI) (A.len xs))) true] (bB (A.not (A.eq (A.nth xs (A.nat ((A.nthA rs (A.nat n2)).cellAt 3).toI)) (-1))) (rB [A.inR .i64 (A.add n2 1),Nat.ble (A.len l3+A.len [A.add (A.nth xs (A.nat ((A.nthA rs (A.nat n2)).cellAt 3).toI)) ((A.nthA rs (A.nat n2)).cellAt 4).toI]) 4294967296,List.all [AV.int .i64 (A.add (A.nth xs (A.nat ((A.nthA rs (A.nat n2)).cellAt 3).toI)) ((A.nthA rs (A.nat n2)).cellAt 4).toI)] fun x=>AV.bx x&&Nat.beq (Zai A x) 1,A.inR .i64 (A.add (A.nth xs (A.nat ((A.nthA rs (A.nat n2)).cellAt 3).toI)) ((A.nthA rs (A.nat n2)).cellAt 4).toI),Zaf (Zaf (A.le 0 ((A.nthA rs (A.nat n2)).cellAt 3).toI) (Nat.blt (A.nat ((A.nthA rs (A.nat n2)).cellAt 3).toI) (A.len xs))) true] (K (Zcp (ms) (ks) (rs) (a) (b) (xs) (c) (d) (e) (A.add n2 1) (A.app l3 [A.add (A.nth xs (A.nat ((A.nthA rs (A.nat n2)).cellAt 3).toI)) ((A.nthA rs (A.nat n2)).cellAt 4).toI])))) (rB [A.inR .i64 (A.add n2 1)] (K (Zcp (ms) (ks) (rs) (a) (b) (xs) (c) (d) (e) (A.add n2 1) (l3)))))) (rB [A.inR .i64 (A.add n2 1)] (K (Zcp (ms) (ks) (rs) (a) (b) (xs) (c) (d) (e) (A.add n2 1) (l3)))))) (K (Zbc (ms) (ks) (rs) (a) (b) (xs) (c) (d) (e) (l3) (0) (false) (0)))
theorem ZfG{A:Ar}{K:KT}{F:FT}{M:MT}{ms ks rs:List AV}{a b:Int}{xs:List Int}{c d e n2:Int}{l3:List Int} :ZaI A tab Bd 124 K F M (.run 10 (.tf (.run 19 (.tf (.ty (.ty (.ty (.ty (.ty (.ty (.ty (.run 2 (.tf (.run 9 (.hd)) (.run 9 (.hd))))))))))) (.fy (.fy (.fy (.fy (.fy (.fy (.fy (.run 2 (.fy (.run 9 (.hd))))))))))))) (.run 14 (.hd)))) (Zer ms ks rs a b xs c d e n2 l3) (ZdC ms ks rs a b xs c d e n2 l3)=ZbQ A K F ms ks rs a b xs c d e n2 l3:=by kernel_rfl
def ZaZ(A:Ar)(K:KT)(F:FT)(ms ks rs:List AV)(a b:Int)(xs:List Int)(c d e:Int)(l0:List Int)(n4:Int)(b5:Bool)(n6:Int):Prop:=bB (A.lt n6 (A.int (A.len l0))) (rB [Zaf (Nat.blt (A.nat n6) (A.len l0)) true,Zaf (A.le 0 n6) (Nat.blt (A.nat n6) (A.len l0))] (qB [A.not b5,A.eqS (Zc7 rs a (A.nth l0 (A.nat n6)) xs c (List.length rs) 0) [],decide (Zba rs (A.nth l0 (A.nat n6)) xs=true),Zae (A.nth l0 (A.nat n6)) d e,Zaf (Nat.blt (A.nat n6) (A.len l0)) true,Zaf (A.le 0 n6) (Nat.blt (A.nat n6) (A.len l0)),A.le b (A.nth l0 (A.nat n6)),Zaf (Nat.blt (A.nat n6) (A.len l0)) true,Zaf (A.le 0 n6) (Nat.blt (A.nat n6) (A.len l0))] (rB [A.inR .i64 (A.add n6 1),Zaf (Nat.blt (A.nat n6) (A.len l0)) true,Zaf (A.le 0 n6) (Nat.blt (A.nat n6) (A.len l0))] (K (Zbb (ms) (ks) (rs) (a) (b) (xs) (c) (d) (e) (l0) (A.nth l0 (A.nat n6)) (true) (A.add n6 1)))) (qB [Zaf (Nat.blt (A.nat n6) (A.len l0)) true,Zaf (A.le 0 n6) (Nat.blt (A.nat n6) (A.len l0)),!A.not b5,A.eqS (Zc7 rs a (A.nth l0 (A.nat n6)) xs c (List.length rs) 0) [],decide (Zba rs (A.nth l0 (A.nat n6)) xs=true),Zae (A.nth l0 (A.nat n6)) d e,Zaf (Nat.blt (A.nat n6) (A.len l0)) true,Zaf (A.le 0 n6) (Nat.blt (A.nat n6) (A.len l0)),A.le b (A.nth l0 (A.nat n6)),Zaf (Nat.blt (A.nat n6) (A.len l0)) true,Zaf (A.le 0 n6) (Nat.blt (A.nat n6) (A.len l0))] (bB (A.lt (A.nth l0 (A.nat n6)) n4) (rB [A.inR .i64 (A.add n6 1),Zaf (Nat.blt (A.nat n6) (A.len l0)) true,Zaf (A.le 0 n6) (Nat.blt (A.nat n6) (A.len l0))] (K (Zbb (ms) (ks) (rs) (a) (b) (xs) (c) (d) (e) (l0) (A.nth l0 (A.nat n6)) (true) (A.add n6 1)))) (rB [A.inR .i64 (A.add n6 1)] (K (Zbb (ms) (ks) (rs) (a) (b) (xs) (c) (d) (e) (l0) (n4) (b5) (A.add n6 1))))) (qB [!A.eqS (Zc7 rs a (A.nth l0 (A.nat n6)) xs c (List.length rs) 0) [],decide (Zba rs (A.nth l0 (A.nat n6)) xs=true),Zae (A.nth l0 (A.nat n6)) d e,Zaf (Nat.blt (A.nat n6) (A.len l0)) true,Zaf (A.le 0 n6) (Nat.blt (A.nat n6) (A.len l0)),A.le b (A.nth l0 (A.nat n6)),Zaf (Nat.blt (A.nat n6) (A.len l0)) true,Zaf (A.le 0 n6) (Nat.blt (A.nat n6) (A.len l0))] (rB [A.inR .i64 (A.add n6 1)] (K (Zbb (ms) (ks) (rs) (a) (b) (xs) (c) (d) (e) (l0) (n4) (b5) (A.add n6 1)))) (qB [!Zae (A.nth l0 (A.nat n6)) d e,Zaf (Nat.blt (A.nat n6) (A.len l0)) true,Zaf (A.le 0 n6) (Nat.blt (A.nat n6) (A.len l0)),A.le b (A.nth l0 (A.nat n6)),Zaf (Nat.blt (A.nat n6) (A.len l0)) true,Zaf (A.le 0 n6) (Nat.blt (A.nat n6) (A.len l0))] (rB [A.inR .i64 (A.add n6 1)] (K (Zbb (ms) (ks) (rs) (a) (b) (xs) (c) (d) (e) (l0) (n4) (b5) (A.add n6 1)))) (rB [!A.le b (A.nth l0 (A.nat n6)),Zaf (Nat.blt (A.nat n6) (A.len l0)) true,Zaf (A.le 0 n6) (Nat.blt (A.nat n6) (A.len l0))] (rB [A.inR .i64 (A.add n6 1)] (K (Zbb (ms) (ks) (rs) (a) (b) (xs) (c) (d) (e) (l0) (n4) (b5) (A.add n6 1)))))))))) (F (AV.tup [AV.int .i64 n4,AV.bool b5]) (none))
theorem ZfX{A:Ar}{K:KT}{F:FT}{M:MT}{ms ks rs:List AV}{a b:Int}{xs:List Int}{c d e:Int}{l0:List Int}{n4:Int}{b5:Bool}{n6:Int} :ZaI A tab Bd 124 K F M (.run 9 (.tf (.run 19 (.alt [true,true,true,true] (.run 1 (.ty (.run 16 (.hd)))) (.alt [true,true,true,false] (.run 1 (.tf (.run 16 (.hd)) (.run 9 (.hd)))) (.alt [true,true,false] (.run 1 (.fy (.run 9 (.hd)))) (.alt [true,false,false] (.run 1 (.fy (.run 9 (.hd)))) (.alt [false,false,false] (.run 1 (.fy (.run 9 (.hd)))) (.no))))))) (.run 9 (.fn)))) (ZcQ ms ks rs a b xs c d e l0 n4 b5 n6) (Zcq ms ks rs a b xs c d e l0 n4 b5 n6)=ZaZ A K F ms ks rs a b xs c d e l0 n4 b5 n6:=by kernel_rfl
def ZaY(A:Ar)(K:KT)(F:FT)(ms ks rs:List AV)(a b:Int)(xs:List Int)(c d e:Int)(l3:List Int)(n7:Int)(b8:Bool)(n9:Int):Prop:=bB (A.lt n9 (A.int (A.len l3))) (rB [Zaf (Nat.blt (A.nat n9) (A.len l3)) true,Zaf (A.le 0 n9) (Nat.blt (A.nat n9) (A.len l3))] (qB [A.not b8,A.eqS (Zc7 rs a (A.nth l3 (A.nat n9)) xs c (List.length rs) 0) [],decide (Zba rs (A.nth l3 (A.nat n9)) xs=true),Zae (A.nth l3 (A.nat n9)) d e,Zaf (Nat.blt (A.nat n9) (A.len l3)) true,Zaf (A.le 0 n9) (Nat.blt (A.nat n9) (A.len l3)),A.le b (A.nth l3 (A.nat n9)),Zaf (Nat.blt (A.nat n9) (A.len l3)) true,Zaf (A.le 0 n9) (Nat.blt (A.nat n9) (A.len l3))] (rB [A.inR .i64 (A.add n9 1),Zaf (Nat.blt (A.nat n9) (A.len l3)) true,Zaf (A.le 0 n9) (Nat.blt (A.nat n9) (A.len l3))] (K (Zbc (ms) (ks) (rs) (a) (b) (xs) (c) (d) (e) (l3) (A.nth l3 (A.nat n9)) (true) (A.add n9 1)))) (qB [Zaf (Nat.blt (A.nat n9) (A.len l3)) true,Zaf (A.le 0 n9) (Nat.blt (A.nat n9) (A.len l3)),!A.not b8,A.eqS (Zc7 rs a (A.nth l3 (A.nat n9)) xs c (List.length rs) 0) [],decide (Zba rs (A.nth l3 (A.nat n9)) xs=true),Zae (A.nth l3 (A.nat n9)) d e,Zaf (Nat.blt (A.nat n9) (A.len l3)) true,Zaf (A.le 0 n9) (Nat.blt (A.nat n9) (A.len l3)),A.le b (A.nth l3 (A.nat n9)),Zaf (Nat.blt (A.nat n9) (A.len l3)) true,Zaf (A.le 0 n9) (Nat.blt (A.nat n9) (A.len l3))] (bB (A.lt (A.nth l3 (A.nat n9)) n7) (rB [A.inR .i64 (A.add n9 1),Zaf (Nat.blt (A.nat n9) (A.len l3)) true,Zaf (A.le 0 n9) (Nat.blt (A.nat n9) (A.len l3))] (K (Zbc (ms) (ks) (rs) (a) (b) (xs) (c) (d) (e) (l3) (A.nth l3 (A.nat n9)) (true) (A.add n9 1)))) (rB [A.inR .i64 (A.add n9 1)] (K (Zbc (ms) (ks) (rs) (a) (b) (xs) (c) (d) (e) (l3) (n7) (b8) (A.add n9 1))))) (qB [!A.eqS (Zc7 rs a (A.nth l3 (A.nat n9)) xs c (List.length rs) 0) [],decide (Zba rs (A.nth l3 (A.nat n9)) xs=true),Zae (A.nth l3 (A.nat n9)) d e,Zaf (Nat.blt (A.nat n9) (A.len l3)) true,Zaf (A.le 0 n9) (Nat.blt (A.nat n9) (A.len l3)),A.le b (A.nth l3 (A.nat n9)),Zaf (Nat.blt (A.nat n9) (A.len l3)) true,Zaf (A.le 0 n9) (Nat.blt (A.nat n9) (A.len l3))] (rB [A.inR .i64 (A.add n9 1)] (K (Zbc (ms) (ks) (rs) (a) (b) (xs) (c) (d) (e) (l3) (n7) (b8) (A.add n9 1)))) (qB [!Zae (A.nth l3 (A.nat n9)) d e,Zaf (Nat.blt (A.nat n9) (A.len l3)) true,Zaf (A.le 0 n9) (Nat.blt (A.nat n9) (A.len l3)),A.le b (A.nth l3 (A.nat n9)),Zaf (Nat.blt (A.nat n9) (A.len l3)) true,Zaf (A.le 0 n9) (Nat.blt (A.nat n9) (A.len l3))] (rB [A.inR .i64 (A.add n9 1)] (K (Zbc (ms) (ks) (rs) (a) (b) (xs) (c) (d) (e) (l3) (n7) (b8) (A.add n9 1)))) (rB [!A.le b (A.nth l3 (A.nat n9)),Zaf (Nat.blt (A.nat n9) (A.len l3)) true,Zaf (A.le 0 n9) (Nat.blt (A.nat n9) (A.len l3))] (rB [A.inR .i64 (A.add n9 1)] (K (Zbc (ms) (ks) (rs) (a) (b) (xs) (c) (d) (e) (l3) (n7) (b8) (A.add n9 1)))))))))) (F (AV.tup [AV.int .i64 n7,AV.bool b8]) (none))
theorem ZfR{A:Ar}{K:KT}{F:FT}{M:MT}{ms ks rs:List AV}{a b:Int}{xs:List Int}{c d e:Int}{l3:List Int}{n7:Int}{b8:Bool}{n9:Int} :ZaI A tab Bd 124 K F M (.run 9 (.tf (.run 19 (.alt [true,true,true,true] (.run 1 (.ty (.run 16 (.hd)))) (.alt [true,true,true,false] (.run 1 (.tf (.run 16 (.hd)) (.run 9 (.hd)))) (.alt [true,true,false] (.run 1 (.fy (.run 9 (.hd)))) (.alt [true,false,false] (.run 1 (.fy (.run 9 (.hd)))) (.alt [false,false,false] (.run 1 (.fy (.run 9 (.hd)))) (.no))))))) (.run 9 (.fn)))) (ZcP ms ks rs a b xs c d e l3 n7 b8 n9) (Zcm ms ks rs a b xs c d e l3 n7 b8 n9)=ZaY A K F ms ks rs a b xs c d e l3 n7 b8 n9:=by kernel_rfl
end Go.Proofs.YtkeoeooghhjibaaGreatDoor
/- Contracts as a list. No condition. -/
namespace Go.Proofs.YtkeoeooghhjibaaGreatDoor
theorem ZpE{e n:Int}{l:List AV}(h:Zdq e n l=0):e=0∧0<l.length∧l.length≤12∧∀i<l.length,Zhv n l i=0:=by
 unfold Zdq ZeR at h
 split at h
 ·rename_i hh
  have h0:=firstE_zero.1 hh
  simp only[List.mem_cons,List.not_mem_nil,or_false,forall_eq_or_imp,forall_eq]at h0
  obtain⟨h1,h2,h3⟩:=h0
  have h2:=Zbq h2 (by decide)
  have h3:=Zbq h3 (by decide)
  simp only[decide_eq_true_eq]at h2 h3
  refine⟨h1,by omega,by omega,fun i hi=>?_⟩
  have key:∀(m k:Nat),k+m=l.length→pE (ZeW (Zhv n l) m k)=0→∀i,k≤i→i<l.length→Zhv n l i=0:=by
   intro m
   induction m with
   |zero=>intro k hk _ i hi1 hi2;omega
   |succ m ih=>
    intro k hk hs i hi1 hi2
    rw[ZeW]at hs
    split at hs
    ·rename_i hz
     by_cases hik:i=k
     ·rw[hik];exact hz
     ·exact ih (k+1) (by omega) hs i (by omega) hi2
    ·rename_i hz;exact absurd hs hz
  exact key l.length 0 (by omega) h i (by omega) hi
 ·rename_i hh;exact absurd h hh
theorem Zrc{n:Int}{l:List AV}{i:Nat}(h:Zhv n l i=0):(0≤Zag l i 0∧Zag l i 0<n)∧(0≤Zag l i 1∧Zag l i 1≤1000000000000)∧(0≤Zag l i 2∧Zag l i 2≤1000000000000)∧Zag l i 1≤Zag l i 2:=by
 unfold Zhv Zmu at h
 have h0:=firstE_zero.1 h
 simp only[List.mem_cons,List.not_mem_nil,or_false,forall_eq_or_imp,forall_eq]at h0
 obtain⟨h1,h2,h3⟩:=h0
 have h1:=within_iff.1 (Zbq h1 (by decide))
 have h2:=Zbq h2 (by decide)
 have h3:=Zbq h3 (by decide)
 simp only[Bool.and_eq_true,within_iff,decide_eq_true_eq]at h2 h3
 omega
structure OkF (ms ks rs l:List AV):Prop where
 model:ZaJ ms ks rs=0
 ks1:1≤ks.length∧ks.length≤8
 rs1:rs.length≤10
 l1:0<l.length∧l.length≤12
 act:∀i<l.length,(0≤Zag l i 0∧Zag l i 0<ks.length)∧(0≤Zag l i 1∧Zag l i 1≤1000000000000)∧(0≤Zag l i 2∧Zag l i 2≤1000000000000)∧Zag l i 1≤Zag l i 2
 rule:∀i<rs.length,(0≤Zag rs i 1∧Zag rs i 1<ks.length)∧(-1≤Zag rs i 3∧Zag rs i 3<ks.length)∧(1≤Zag rs i 4∧Zag rs i 4≤1000000)
 name:∀i<rs.length,ZaM (Zau rs i)=true
theorem okF{ms ks rs l:List AV}(h:Zew ms ks rs l=0):OkF ms ks rs l:=by
 obtain⟨h1,h2,h3,h4⟩:=ZpE h
 obtain⟨g1,g2,g3,_,_,g6⟩:=ZmW h1
 exact⟨h1,g2,g3,⟨h2,h3⟩,fun i hi=>Zrc (h4 i hi),fun i hi=>⟨(ZgF (g6 i hi).2).1,(ZgF (g6 i hi).2).2.2.1,(ZgF (g6 i hi).2).2.2.2.1⟩,fun i hi=>(g6 i hi).1⟩
def Zb6(ks l:List AV):Nat→Nat→Int→List Int
 |0,_,_=>[]
 |m+1,i,a=>exM ks a (Zag l i 0)::Zb6 ks l m (i+1) (exM ks a (Zag l i 0))
theorem Zq3(e:Int)(xs:List Int)(h:xs=[]):∃r'',Wk (.tup [.nils, .int .i64 e]) r''∧Frz none r'' (.tup [.list (.ints .i64 xs), .int .i64 e])∧Zgj none=false:=by
 subst h
 exact⟨_, .same _, .tup ⟨.nil _ rfl, .same _ rfl rfl,trivial⟩,rfl⟩
theorem ZwR(e:Int)(xs ys:List Int)(h:xs=ys):∃r'',Wk (.tup [.row 0 0, .int .i64 e]) r''∧Frz (some ⟨3,1, .ints .i64 xs⟩) r'' (.tup [.list (.ints .i64 ys), .int .i64 e])∧Zgj (some ⟨3,1, .ints .i64 xs⟩)=false:=by
 subst h
 exact⟨_, .same _, .tup ⟨.row _ rfl rfl rfl, .same _ rfl rfl,trivial⟩,rfl⟩
theorem ZBZ(xs ys:List Int)(h:xs=ys):∃r'',Wk (.row 0 0) r''∧Frz (some ⟨3,1, .ints .i64 xs⟩) r'' (.list (.ints .i64 ys))∧Zgj (some ⟨3,1, .ints .i64 xs⟩)=false:=by
 subst h
 exact⟨_, .same _, .one (.row _ rfl rfl rfl),rfl⟩
theorem ZiA{C:Ctx}(hC:C.P=Tryz.prog)(ms ks rs:List AV)(l:List AV)(hf:OkF ms ks rs l):∀(m i:Nat) (out xs:List Int) (a:Int),i+m=l.length→out.length≤i→xs.length=ks.length→Ev C (Zg9 ms ks rs l l.length i out xs a) (Zfl ms ks rs l l.length i out xs a) (ZmP 27 (.tup [.list (.ints .i64 (out++Zb6 ks l m i a)), .int .i64 0]))
 |0,i,out,xs,a,hk,ho,hx=>ZhP hC ZbL Zil (by
  simp only[ZdS,ZnP,Zr2,decide_eq_true_eq,if_neg (show ¬(i:Int)<l.length by omega)]
  exact ZwR 0 _ _ (by simp[Zb6]))
 |m+1,i,out,xs,a,hk,ho,hx=>by
  have ih:=fun v=>ZiA hC ms ks rs l hf m (i+1) (out++[v]) (xs.set (Zag l i 0).toNat 0) v (by omega) (by simp;omega) (by simpa using hx)
  have hlt:(i:Int)<l.length:=by omega
  have hlt2:i<l.length:=by omega
  have e0:((l.getD i .top).cellAt 0).toI=Zag l i 0:=rfl
  have e1:((ks.getD (Zag l i 0).toNat .top).cellAt 1).toI=Zag ks (Zag l i 0) 1:=rfl
  obtain⟨ha,_⟩:=hf.act i hlt2
  have h1:=hf.l1
  refine ZhP hC ZbL Zil ?_
  by_cases hc:Zag ks (Zag l i 0) 1= -1
  ·have:=ih a
   simp[-List.getD_eq_getElem?_getD,ZdS,hlt,hlt2,e0,e1,hc,AV.bx,Zai,hx,Zb6,exM]
   refine⟨by omega,by omega,?_⟩
   simpa[List.append_assoc]using this
  ·have:=ih (Zag ks (Zag l i 0) 1)
   simp[-List.getD_eq_getElem?_getD,ZdS,hlt,hlt2,e0,e1,hc,AV.bx,Zai,hx,Zb6,exM]
   refine⟨by omega,by omega,?_⟩
   simpa[List.append_assoc]using this
def Zkl(ms ks rs l:List AV):List Int:=if Zew ms ks rs l=0 then Zb6 ks l l.length 0 0 else []
theorem Znp(ms ks rs:List AV)(l:List AV)(h:ZaB ms ks rs=true∧l.length≤1000000):Zan Tryz.prog 27 [.agg (.gen [.list (.big .str ms), .list (.big (.agg [.str, .int .i64]) ks), .list (.big (.agg [.str, .int .i64, .int .i64, .int .i64, .int .i64]) rs)]), .list (.big (.agg [.int .i64, .int .i64, .int .i64]) l)] (.tup [.list (.ints .i64 (Zkl ms ks rs l)), .int .i64 (Zew ms ks rs l)]) Zl2:=
 Zmv (Zul ms ks rs l) fun C hC=>ZhP hC ZbL ZCy (by
  have he:Zdq (ZaJ ms ks rs) ks.length l=Zew ms ks rs l:=rfl
  by_cases h0:Zew ms ks rs l=0
  ·have hf:=okF h0
   have ha:0≤Zag l 0 0∧Zag l 0 0<ks.length:=(hf.act 0 hf.l1.1).1
   have hl:=hf.l1.1
   have hk:=hf.ks1
   simp[Ztz,h,he,h0,AV.bx,Zai]
   refine⟨by omega,?_⟩
   refine ZhP hC ZbL Znd ?_
   have e0:((l.getD 0 .top).cellAt 0).toI=Zag l 0 0:=rfl
   have e1:((ks.getD (Zag l 0 0).toNat .top).cellAt 1).toI=Zag ks (Zag l 0 0) 1:=rfl
   have ih:=fun v=>ZiA hC ms ks rs l hf (l.length-1) 1 [v] ((List.replicate ks.length (-1)).set (Zag l 0 0).toNat 0) v (by omega) (by simp) (by simp)
   have hm:∀v,v=exM ks 0 (Zag l 0 0)→Zkl ms ks rs l=[v]++Zb6 ks l (l.length-1) 1 v:=fun v hv=>by
    unfold Zkl
    rw[if_pos h0]
    obtain⟨n,hn⟩:∃n,l.length=n+1:=⟨l.length-1,by omega⟩
    rw[hn,Zb6,hv];rfl
   by_cases hc:Zag ks (Zag l 0 0) 1= -1
   ·have:=ih 0
    rw[hm 0 (by simp[exM,hc])]
    simp[-List.getD_eq_getElem?_getD,Ze2,hl,show(0:Int)<l.length by omega,e0,e1,hc,AV.bx,Zai]
    exact⟨by omega,by simpa using this⟩
   ·have:=ih (Zag ks (Zag l 0 0) 1)
    rw[hm (Zag ks (Zag l 0 0) 1) (by simp[exM,hc])]
    simp[-List.getD_eq_getElem?_getD,Ze2,hl,show(0:Int)<l.length by omega,e0,e1,hc,AV.bx,Zai]
    exact⟨by omega,by simpa using this⟩
  ·simp[Ztz,h,he,h0]
   exact Zq3 _ _ (by simp[Zkl,h0]))
theorem ZfN{C:Ctx}(hC:C.P=Tryz.prog)(ms ks rs:List AV)(l:List AV)(hf:OkF ms ks rs l):∀(m i:Nat) (out xs:List Int) (a:Int),i+m=l.length→out.length≤i→xs.length=ks.length→Ev C (ZgP ms ks rs l i a xs out) (Zfc ms ks rs l i a xs out) (ZmP 30 (.list (.ints .i64 (out++Zb6 ks l m i a))))
 |0,i,out,xs,a,hk,ho,hx=>ZhP hC ZbL ZhN (by
  simp only[ZfC,ZnP,Zr2,Zgc,Zc5,decide_eq_true_eq,if_neg (show ¬(i:Int)<l.length by omega)]
  exact ZBZ _ _ (by simp[Zb6]))
 |m+1,i,out,xs,a,hk,ho,hx=>by
  have ih:=ZfN hC ms ks rs l hf m (i+1) (out++[exM ks a (Zag l i 0)]) (xs.set (Zag l i 0).toNat 0) (exM ks a (Zag l i 0)) (by omega) (by simp;omega) (by simpa using hx)
  have hlt:(i:Int)<l.length:=by omega
  have hlt2:i<l.length:=by omega
  have e0:((l.getD i .top).cellAt 0).toI=Zag l i 0:=rfl
  obtain⟨ha,_⟩:=hf.act i hlt2
  have h1:=hf.l1
  have h2:=hf.ks1
  refine ZhP hC ZbL ZhN ?_
  simp[-List.getD_eq_getElem?_getD,ZfC,hlt,hlt2,e0,AV.bx,Zai,hx,Zb6]
  refine⟨by omega,?_⟩
  simpa[List.append_assoc]using ih
theorem ZmJ(ms ks rs:List AV)(l:List AV)(h:Zew ms ks rs l=0):Zan Tryz.prog 30 [.agg (.gen [.list (.big .str ms), .list (.big (.agg [.str, .int .i64]) ks), .list (.big (.agg [.str, .int .i64, .int .i64, .int .i64, .int .i64]) rs)]), .list (.big (.agg [.int .i64, .int .i64, .int .i64]) l)] (.list (.ints .i64 (Zkl ms ks rs l))) Zl2:=
 Zmv (Zvh ms ks rs l) fun C hC=>ZhP hC ZbL ZBD (by
  have hf:=okF h
  have ha:0≤Zag l 0 0∧Zag l 0 0<ks.length:=(hf.act 0 hf.l1.1).1
  have hl:=hf.l1.1
  have hk:=hf.ks1
  simp[ZyQ]
  refine⟨by omega,?_⟩
  refine ZhP hC ZbL Znw ?_
  have e0:((l.getD 0 .top).cellAt 0).toI=Zag l 0 0:=rfl
  have ih:=ZfN hC ms ks rs l hf (l.length-1) 1 [exM ks 0 (Zag l 0 0)] ((List.replicate ks.length (-1)).set (Zag l 0 0).toNat 0) (exM ks 0 (Zag l 0 0)) (by omega) (by simp) (by simp)
  have hm:Zkl ms ks rs l=[exM ks 0 (Zag l 0 0)]++Zb6 ks l (l.length-1) 1 (exM ks 0 (Zag l 0 0)):=by
   unfold Zkl
   rw[if_pos h]
   obtain⟨n,hn⟩:∃n,l.length=n+1:=⟨l.length-1,by omega⟩
   rw[hn,Zb6];rfl
  rw[hm]
  simp[-List.getD_eq_getElem?_getD,ZhV,hl,e0,AV.bx,Zai]
  exact⟨by omega,by simpa using ih⟩)
def k27:Ctr:=⟨27,0,fun _ a=>match a with |[.agg (.gen [.list (.big .str ms), .list (.big (.agg [.str, .int .i64]) ks), .list (.big (.agg [.str, .int .i64, .int .i64, .int .i64, .int .i64]) rs)]), .list (.big (.agg [.int .i64, .int .i64, .int .i64]) l)]=>some (decide (ZaB ms ks rs=true∧l.length≤1000000), .tup [.list (.ints .i64 (Zkl ms ks rs l)), .int .i64 (Zew ms ks rs l)],Zl2) |_=>none⟩
theorem Zxv:k27.OK Tryz.prog:=fun pa args r fr h=>by
 simp only[k27]at h
 split at h
 ·simp only[Option.some.injEq,Prod.mk.injEq,decide_eq_true_eq]at h
  obtain⟨h0,rfl,rfl⟩:=h
  exact Znp _ _ _ _ h0
 ·cases h
def k30:Ctr:=⟨30,0,fun _ a=>match a with |[.agg (.gen [.list (.big .str ms), .list (.big (.agg [.str, .int .i64]) ks), .list (.big (.agg [.str, .int .i64, .int .i64, .int .i64, .int .i64]) rs)]), .list (.big (.agg [.int .i64, .int .i64, .int .i64]) l)]=>some (decide (Zew ms ks rs l=0), .list (.ints .i64 (Zkl ms ks rs l)),Zl2) |_=>none⟩
theorem ZyH:k30.OK Tryz.prog:=fun pa args r fr h=>by
 simp only[k30]at h
 split at h
 ·simp only[Option.some.injEq,Prod.mk.injEq,decide_eq_true_eq]at h
  obtain⟨h0,rfl,rfl⟩:=h
  exact ZmJ _ _ _ _ h0
 ·cases h
def Be:List Ctr:=[k27,k30]++Bd
theorem ZBA:ZaK Tryz.prog Be:=⟨Zxv,⟨ZyH,ZbL⟩⟩
end Go.Proofs.YtkeoeooghhjibaaGreatDoor
/- Contracts as a list. No condition. -/
namespace Go.Proofs.YtkeoeooghhjibaaGreatDoor
def ZkF(rs:List AV)(a:Int)(xs:List Int)(q:Int)(i:Nat):Bool:=decide (Zag rs i 3≠ -1)&&Zmj a q (Zag rs i 1) (Zag rs i 2)&&decide (xs.getD (Zag rs i 3).toNat 0≠ -1)
def Zjr(rs:List AV)(xs:List Int)(i:Nat):Int:=xs.getD (Zag rs i 3).toNat 0+Zag rs i 4
def Zbw(rs:List AV)(a:Int)(xs:List Int)(q:Int):Nat→Nat→Int→Int
 |0,_,t=>t
 |m+1,i,t=>Zbw rs a xs q m (i+1) (if ZkF rs a xs q i=true then max t (Zjr rs xs i)else t)
def Zd9(rs l:List AV)(a t:Int)(xs:List Int)(i:Nat):Int:=Zbw rs a xs (Zag l i 0) rs.length 0 (max t (Zag l i 1))
def ZaO(ks rs l:List AV):Nat→Nat→Int→Int→List Int→Option (List Int)
 |0,_,_,_,_=>some []
 |m+1,i,a,t,xs=>if Zh5 rs a (Zd9 rs l a t xs i) xs (Zag l i 0) (Zag l i 1) (Zag l i 2)=true then(ZaO ks rs l m (i+1) (exM ks a (Zag l i 0)) (Zd9 rs l a t xs i) (xs.set (Zag l i 0).toNat (Zd9 rs l a t xs i))).map (Zd9 rs l a t xs i:: ·)else none
theorem Zc4(rs:List AV)(a:Int)(xs:List Int)(q:Int):∀(m i:Nat) (t:Int),t≤Zbw rs a xs q m i t
 |0,_,_=>Int.le_refl _
 |m+1,i,t=>by
  unfold Zbw
  split
  ·have:=Zc4 rs a xs q m (i+1) (max t (Zjr rs xs i));omega
  ·exact Zc4 rs a xs q m (i+1) t
structure OkT (ks:List AV) (t:Int) (xs:List Int):Prop where
 len:xs.length=ks.length
 all:∀x∈xs, -1≤x∧x≤t
 lo:0≤t
 hi:t≤1000000000000
theorem OkT.at{ks:List AV}{t:Int}{xs:List Int}(h:OkT ks t xs){k:Nat}(hk:k<xs.length): -1≤xs.getD k 0∧xs.getD k 0≤t:=by
 refine h.all _ ?_
 rw[List.getD_eq_getElem?_getD,List.getElem?_eq_getElem hk];exact List.getElem_mem hk
theorem OkT.set{ks:List AV}{t t':Int}{xs:List Int}(h:OkT ks t xs)(h1:t≤t')(h2:t'≤1000000000000)(k:Nat):OkT ks t' (xs.set k t'):=by
 refine⟨by simpa using h.len,fun x hx=>?_,by have:=h.lo;omega,h2⟩
 rcases List.mem_or_eq_of_mem_set hx with hx |rfl
 ·have:=h.all x hx;omega
 ·have:=h.lo;omega
theorem OkT.forb{ms ks rs l:List AV}(hf:OkF ms ks rs l){t t':Int}{xs:List Int}(h:OkT ks t xs)(h1:t≤t')(h2:t'≤1000000000000):Zba rs t' xs=true:=by
 simp only[Zba,Bool.and_eq_true,List.all_eq_true,decide_eq_true_eq,List.mem_range]
 refine⟨⟨fun i hi=>?_,fun x hx=>?_⟩,by have:=h.lo;omega,h2,by have:=hf.rs1;omega⟩
 ·have:=(hf.rule i hi).2.1;have:=h.len;omega
 ·have:=h.all x hx;omega
def ZAd(out:List Int):Option (List Int)→AV
 |some ts=>.tup [.list (.ints .i64 (out++ts)), .int .i64 0]
 |none=>.tup [.list (.ints .i64 []), .int .i64 12]
theorem Zjw(out:List Int)(t:Int)(o:Option (List Int)):ZAd out (o.map (t:: ·))=ZAd (out++[t]) o:=by
 cases o with
 |none=>rfl
 |some ts=>simp[ZAd]
section
variable {C:Ctx}(hC:C.P=Tryz.prog)(ms ks rs l:List AV)(hf:OkF ms ks rs l)
include hC hf
theorem Zr7(n0 n21:Int)(l22 xs:List Int)(a:Int)(b27:Bool)(n28 n29 n30 n31 n32 n33 n34 n35 n36 n37 n38 n39 q n42 n43 t0:Int)(hT:OkT ks t0 xs)(V:AV):
 ∀(m i:Nat) (t:Int),i+m=rs.length→(∀t',t'=Zbw rs a xs q m i t→Ev C (ZeH ms ks rs l n0 n21 l22 xs a rs.length b27 n28 n29 n30 n31 n32 n33 n34 n35 n36 n37 n38 n39 t' q n42 n43 rs.length) (ZdW ms ks rs l n0 n21 l22 xs a rs.length b27 n28 n29 n30 n31 n32 n33 n34 n35 n36 n37 n38 n39 t' q n42 n43 rs.length) (ZmP 24 V))→
  Ev C (ZeH ms ks rs l n0 n21 l22 xs a rs.length b27 n28 n29 n30 n31 n32 n33 n34 n35 n36 n37 n38 n39 t q n42 n43 i) (ZdW ms ks rs l n0 n21 l22 xs a rs.length b27 n28 n29 n30 n31 n32 n33 n34 n35 n36 n37 n38 n39 t q n42 n43 i) (ZmP 24 V)
 |0,i,t,hk,hq=>by
  have:i=rs.length:=by omega
  subst this
  exact hq t rfl
 |m+1,i,t,hk,hq=>by
  have hlt:(i:Int)<rs.length:=by omega
  have hlt2:i<rs.length:=by omega
  have e1:((rs.getD i .top).cellAt 1).toI=Zag rs i 1:=rfl
  have e2:((rs.getD i .top).cellAt 2).toI=Zag rs i 2:=rfl
  have e3:((rs.getD i .top).cellAt 3).toI=Zag rs i 3:=rfl
  have e4:((rs.getD i .top).cellAt 4).toI=Zag rs i 4:=rfl
  have ih:=fun t'=>Zr7 n0 n21 l22 xs a b27 n28 n29 n30 n31 n32 n33 n34 n35 n36 n37 n38 n39 q n42 n43 t0 hT V m (i+1) t' (by omega)
  obtain⟨_,r3,r4⟩:=hf.rule i hlt2
  have hr:=hf.rs1
  have hlen:=hT.len
  have hi:=hT.hi
  refine ZhP hC ZbL ZiB ?_
  by_cases h3:Zag rs i 3= -1
  ·have:=ih t (fun t' ht'=>hq t' (by rw[Zbw,if_neg (by simp[ZkF,h3])];exact ht'))
   simp[-List.getD_eq_getElem?_getD,Zbo,hlt,hlt2,e1,e2,e3,e4,h3]
   exact⟨by omega,by simpa using this⟩
  ·have hx:=hT.at (show (Zag rs i 3).toNat<xs.length by omega)
   by_cases h4:Zmj a q (Zag rs i 1) (Zag rs i 2)=true
   ·by_cases h5:xs.getD (Zag rs i 3).toNat 0= -1
    ·have:=ih t (fun t' ht'=>hq t' (by rw[Zbw,if_neg (by simp only[ZkF,h5];simp)];exact ht'))
     simp[-List.getD_eq_getElem?_getD,Zbo,hlt,hlt2,e1,e2,e3,e4,h3,h4,h5,show(0:Int)≤Zag rs i 3 by omega,show(Zag rs i 3).toNat<xs.length by omega]
     exact⟨by omega,by simpa using this⟩
    ·have:=ih (max t (Zjr rs xs i)) (fun t' ht'=>hq t' (by rw[Zbw,if_pos (by simp only[ZkF,h4,decide_eq_true h3,decide_eq_true h5,Bool.and_self])];exact ht'))
     simp[-List.getD_eq_getElem?_getD,Zbo,hlt,hlt2,e1,e2,e3,e4,h3,h4,h5,show(0:Int)≤Zag rs i 3 by omega,show(Zag rs i 3).toNat<xs.length by omega]
     exact⟨⟨by omega,by omega⟩,by simpa[Zjr]using this⟩
   ·have:=ih t (fun t' ht'=>hq t' (by rw[Zbw,if_neg (by simp only[ZkF,(by simpa using h4:Zmj a q (Zag rs i 1) (Zag rs i 2)=false)];simp)];exact ht'))
    simp[-List.getD_eq_getElem?_getD,Zbo,hlt,hlt2,e1,e2,e3,e4,h3,h4]
    exact⟨by omega,by simpa using this⟩
theorem ZrV(n0:Int)(xs:List Int)(b27:Bool)(n28 n29 n30 n31 n32 n33 n34 n35 n36 n37 n38 n39 q n42 n43 t0:Int)(hT:OkT ks t0 xs)(V:AV):
 ∀(m i:Nat) (t:Int),i+m=rs.length→(∀t',t'=Zbw rs 0 xs q m i t→Ev C (ZeQ ms ks rs l n0 xs rs.length b27 n28 n29 n30 n31 n32 n33 n34 n35 n36 n37 n38 n39 t' q n42 n43 rs.length) (ZdJ ms ks rs l n0 xs rs.length b27 n28 n29 n30 n31 n32 n33 n34 n35 n36 n37 n38 n39 t' q n42 n43 rs.length) (ZmP 24 V))→
  Ev C (ZeQ ms ks rs l n0 xs rs.length b27 n28 n29 n30 n31 n32 n33 n34 n35 n36 n37 n38 n39 t q n42 n43 i) (ZdJ ms ks rs l n0 xs rs.length b27 n28 n29 n30 n31 n32 n33 n34 n35 n36 n37 n38 n39 t q n42 n43 i) (ZmP 24 V)
 |0,i,t,hk,hq=>by
  have:i=rs.length:=by omega
  subst this
  exact hq t rfl
 |m+1,i,t,hk,hq=>by
  have hlt:(i:Int)<rs.length:=by omega
  have hlt2:i<rs.length:=by omega
  have e1:((rs.getD i .top).cellAt 1).toI=Zag rs i 1:=rfl
  have e2:((rs.getD i .top).cellAt 2).toI=Zag rs i 2:=rfl
  have e3:((rs.getD i .top).cellAt 3).toI=Zag rs i 3:=rfl
  have e4:((rs.getD i .top).cellAt 4).toI=Zag rs i 4:=rfl
  have ih:=fun t'=>ZrV n0 xs b27 n28 n29 n30 n31 n32 n33 n34 n35 n36 n37 n38 n39 q n42 n43 t0 hT V m (i+1) t' (by omega)
  obtain⟨_,r3,r4⟩:=hf.rule i hlt2
  have hr:=hf.rs1
  have hlen:=hT.len
  have hi:=hT.hi
  refine ZhP hC ZbL Ziq ?_
  by_cases h3:Zag rs i 3= -1
  ·have:=ih t (fun t' ht'=>hq t' (by rw[Zbw,if_neg (by simp[ZkF,h3])];exact ht'))
   simp[-List.getD_eq_getElem?_getD,Zbn,hlt,hlt2,e1,e2,e3,e4,h3]
   exact⟨by omega,by simpa using this⟩
  ·have hx:=hT.at (show (Zag rs i 3).toNat<xs.length by omega)
   by_cases h4:Zmj 0 q (Zag rs i 1) (Zag rs i 2)=true
   ·by_cases h5:xs.getD (Zag rs i 3).toNat 0= -1
    ·have:=ih t (fun t' ht'=>hq t' (by rw[Zbw,if_neg (by simp only[ZkF,h5];simp)];exact ht'))
     simp[-List.getD_eq_getElem?_getD,Zbn,hlt,hlt2,e1,e2,e3,e4,h3,h4,h5,show(0:Int)≤Zag rs i 3 by omega,show(Zag rs i 3).toNat<xs.length by omega]
     exact⟨by omega,by simpa using this⟩
    ·have:=ih (max t (Zjr rs xs i)) (fun t' ht'=>hq t' (by rw[Zbw,if_pos (by simp only[ZkF,h4,decide_eq_true h3,decide_eq_true h5,Bool.and_self])];exact ht'))
     simp[-List.getD_eq_getElem?_getD,Zbn,hlt,hlt2,e1,e2,e3,e4,h3,h4,h5,show(0:Int)≤Zag rs i 3 by omega,show(Zag rs i 3).toNat<xs.length by omega]
     exact⟨⟨by omega,by omega⟩,by simpa[Zjr]using this⟩
   ·have:=ih t (fun t' ht'=>hq t' (by rw[Zbw,if_neg (by simp only[ZkF,(by simpa using h4:Zmj 0 q (Zag rs i 1) (Zag rs i 2)=false)];simp)];exact ht'))
    simp[-List.getD_eq_getElem?_getD,Zbn,hlt,hlt2,e1,e2,e3,e4,h3,h4]
    exact⟨by omega,by simpa using this⟩
theorem ZhM:∀(m i:Nat) (out xs:List Int) (a t:Int),i+m=l.length→out.length≤i→OkT ks t xs→Ev C (ZgV ms ks rs l l.length i out xs a t) (Zff ms ks rs l l.length i out xs a t) (ZmP 24 (ZAd out (ZaO ks rs l m i a t xs)))
 |0,i,out,xs,a,t,hk,ho,hT=>ZhP hC ZbL ZiN (by
  simp only[Ze9,ZnP,Zr2,decide_eq_true_eq,if_neg (show ¬(i:Int)<l.length by omega)]
  exact ZwR 0 _ _ (by simp))
 |m+1,i,out,xs,a,t,hk,ho,hT=>by
  have hlt:(i:Int)<l.length:=by omega
  have hlt2:i<l.length:=by omega
  have e0:((l.getD i .top).cellAt 0).toI=Zag l i 0:=rfl
  have e1:((l.getD i .top).cellAt 1).toI=Zag l i 1:=rfl
  have e2:((l.getD i .top).cellAt 2).toI=Zag l i 2:=rfl
  have e3:((ks.getD (Zag l i 0).toNat .top).cellAt 1).toI=Zag ks (Zag l i 0) 1:=rfl
  obtain⟨ha,hb,hc,hd⟩:=hf.act i hlt2
  have h1:=hf.l1
  have hlen:=hT.len
  refine ZhP hC ZbL ZiN ?_
  simp only[Ze9,ZnP,Zr2,decide_eq_true_eq,if_pos hlt,Zty]
  refine⟨by simp[hlt2],?_⟩
  simp only[Zgc,Zc5,Zse,Zzp,Int.toNat_natCast,e0,e1,e2,Zyj]
  refine Zr7 hC ms ks rs l hf _ _ _ xs a _ _ _ _ _ _ _ _ _ _ _ _ _ _ _ _ t hT _ rs.length 0 _ (by omega) fun t' ht'=>?_
  have ht':t'=Zd9 rs l a t xs i:=ht'
  have hge:t≤t':=by
   have:=Zc4 rs a xs (Zag l i 0) rs.length 0 (max t (Zag l i 1))
   rw[ht'];unfold Zd9;omega
  refine ZhP hC ZbL ZiB ?_
  have hfb:Zae t' (Zag l i 1) (Zag l i 2)=false∨Zba rs t' xs=true:=by
   cases hw:Zae t' (Zag l i 1) (Zag l i 2)
   ·exact .inl rfl
   ·have:=within_iff.1 hw
    exact .inr (hT.forb (ms:=ms) (l:=l) hf hge (by omega))
  rw[ZaO,←ht']
  by_cases hac:Zh5 rs a t' xs (Zag l i 0) (Zag l i 1) (Zag l i 2)=true
  ·have hw:Zae t' (Zag l i 1) (Zag l i 2)=true:=by
    unfold Zh5 at hac
    simp only[Bool.and_eq_true]at hac
    exact hac.1
   have hw':=within_iff.1 hw
   rw[if_pos hac,Zjw]
   have ih:=fun v=>ZhM m (i+1) (out++[t']) (xs.set (Zag l i 0).toNat t') v t' (by omega) (by simp;omega) (hT.set hge (by omega) _)
   by_cases hm:Zag ks (Zag l i 0) 1= -1
   ·have:=ih a
    simp[-List.getD_eq_getElem?_getD,Zbo,e3,hfb,hac,ha,hlen,hm,AV.bx,Zai,exM]
    exact⟨by omega,by simpa using this⟩
   ·have:=ih (Zag ks (Zag l i 0) 1)
    simp[-List.getD_eq_getElem?_getD,Zbo,e3,hfb,hac,ha,hlen,hm,AV.bx,Zai,exM]
    exact⟨by omega,by simpa using this⟩
  ·rw[if_neg hac]
   simp[-List.getD_eq_getElem?_getD,Zbo,hfb,hac]
   exact Zq3 12 [] rfl
end
def ZnS(ks rs l:List AV):Option (List Int):=ZaO ks rs l l.length 0 0 0 (List.replicate ks.length (-1))
def Zk3(ms ks rs l:List AV):List Int:=if Zew ms ks rs l=0 then(ZnS ks rs l).getD []else []
def Zls(ms ks rs l:List AV):Int:=if Zew ms ks rs l=0 then(if (ZnS ks rs l).isSome=true then 0 else 12)else Zew ms ks rs l
theorem ZAt{ms ks rs l:List AV}(h:Zew ms ks rs l=0):ZAd [] (ZnS ks rs l)=.tup [.list (.ints .i64 (Zk3 ms ks rs l)), .int .i64 (Zls ms ks rs l)]:=by
 unfold Zk3 Zls
 rw[if_pos h,if_pos h]
 cases ZnS ks rs l<;>rfl
theorem ZC6{ms ks rs l:List AV}(_:OkF ms ks rs l):OkT ks 0 (List.replicate ks.length (-1)):=⟨by simp,fun x hx=>by rw[List.eq_of_mem_replicate hx];omega,by omega,by omega⟩
theorem Znk(ms ks rs:List AV)(l:List AV)(h:ZaB ms ks rs=true∧l.length≤1000000):Zan Tryz.prog 24 [.agg (.gen [.list (.big .str ms), .list (.big (.agg [.str, .int .i64]) ks), .list (.big (.agg [.str, .int .i64, .int .i64, .int .i64, .int .i64]) rs)]), .list (.big (.agg [.int .i64, .int .i64, .int .i64]) l)] (.tup [.list (.ints .i64 (Zk3 ms ks rs l)), .int .i64 (Zls ms ks rs l)]) Zl2:=
 Zmv (ZsC ms ks rs l) fun C hC=>ZhP hC ZbL ZCq (by
  have he:Zdq (ZaJ ms ks rs) ks.length l=Zew ms ks rs l:=rfl
  by_cases h0:Zew ms ks rs l=0
  ·have hf:=okF h0
   have hT:=ZC6 hf
   obtain⟨ha,hb,hc,hd⟩:(0≤Zag l 0 0∧Zag l 0 0<ks.length)∧(0≤Zag l 0 1∧Zag l 0 1≤1000000000000)∧(0≤Zag l 0 2∧Zag l 0 2≤1000000000000)∧Zag l 0 1≤Zag l 0 2:=hf.act 0 hf.l1.1
   have hl:=hf.l1.1
   have hk:=hf.ks1
   simp[Zvl,h,he,h0,AV.bx,Zai]
   refine⟨by omega,?_⟩
   refine ZhP hC ZbL Znv ?_
   have e0:((l.getD 0 .top).cellAt 0).toI=Zag l 0 0:=rfl
   have e1:((l.getD 0 .top).cellAt 1).toI=Zag l 0 1:=rfl
   have e2:((l.getD 0 .top).cellAt 2).toI=Zag l 0 2:=rfl
   have e3:((ks.getD (Zag l 0 0).toNat .top).cellAt 1).toI=Zag ks (Zag l 0 0) 1:=rfl
   simp only[ZiJ,ZnP,Zr2,decide_eq_true_eq,if_pos (show (0:Int)<l.length by omega),Zty]
   refine⟨by simp[hl],?_⟩
   simp only[Zgc,Zc5,Zse,Zzp,Int.toNat_zero,e0,e1,e2,Zyj]
   refine ZrV hC ms ks rs l hf _ (List.replicate ks.length (-1)) _ _ _ _ _ _ _ _ _ _ _ _ _ _ _ _ 0 hT _ rs.length 0 _ (by omega) fun t' ht'=>?_
   have ht':t'=Zd9 rs l 0 0 (List.replicate ks.length (-1)) 0:=ht'
   have hge:0≤t':=by
    have:=Zc4 rs 0 (List.replicate ks.length (-1)) (Zag l 0 0) rs.length 0 (max 0 (Zag l 0 1))
    have e:Zd9 rs l 0 0 (List.replicate ks.length (-1)) 0=Zbw rs 0 (List.replicate ks.length (-1)) (Zag l 0 0) rs.length 0 (max 0 (Zag l 0 1)):=rfl
    rw[ht',e];omega
   refine ZhP hC ZbL Ziq ?_
   have hfb:Zae t' (Zag l 0 1) (Zag l 0 2)=false∨Zba rs t' (List.replicate ks.length (-1))=true:=by
    cases hw:Zae t' (Zag l 0 1) (Zag l 0 2)
    ·exact .inl rfl
    ·have:=within_iff.1 hw
     exact .inr (hT.forb (ms:=ms) (l:=l) hf hge (by omega))
   rw[←ZAt h0]
   obtain⟨n,hn⟩:∃n,l.length=n+1:=⟨l.length-1,by omega⟩
   have hx:ZnS ks rs l=if Zh5 rs 0 t' (List.replicate ks.length (-1)) (Zag l 0 0) (Zag l 0 1) (Zag l 0 2)=true then(ZaO ks rs l n 1 (exM ks 0 (Zag l 0 0)) t' ((List.replicate ks.length (-1)).set (Zag l 0 0).toNat t')).map (t':: ·)else none:=by
    unfold ZnS
    rw[hn,ZaO,ht'];rfl
   rw[hx]
   by_cases hac:Zh5 rs 0 t' (List.replicate ks.length (-1)) (Zag l 0 0) (Zag l 0 1) (Zag l 0 2)=true
   ·have hw:Zae t' (Zag l 0 1) (Zag l 0 2)=true:=by
     unfold Zh5 at hac
     simp only[Bool.and_eq_true]at hac
     exact hac.1
    have hw':=within_iff.1 hw
    rw[if_pos hac,Zjw]
    have ih:=fun v=>ZhM hC ms ks rs l hf n 1 [t'] ((List.replicate ks.length (-1)).set (Zag l 0 0).toNat t') v t' (by omega) (by simp) (hT.set hge (by omega) _)
    by_cases hm:Zag ks (Zag l 0 0) 1= -1
    ·have:=ih 0
     simp[-List.getD_eq_getElem?_getD,Zbn,e3,hfb,hac,ha,hm,AV.bx,Zai,exM]
     simpa using this
    ·have:=ih (Zag ks (Zag l 0 0) 1)
     simp[-List.getD_eq_getElem?_getD,Zbn,e3,hfb,hac,ha,hm,AV.bx,Zai,exM]
     simpa using this
   ·rw[if_neg hac]
    simp[-List.getD_eq_getElem?_getD,Zbn,hfb,hac]
    exact Zq3 12 [] rfl
  ·simp[Zvl,h,he,h0]
   have e:Zls ms ks rs l=Zew ms ks rs l:=by simp[Zls,h0]
   rw[e]
   exact Zq3 _ _ (by simp[Zk3,h0]))
def k24:Ctr:=⟨24,0,fun _ a=>match a with |[.agg (.gen [.list (.big .str ms), .list (.big (.agg [.str, .int .i64]) ks), .list (.big (.agg [.str, .int .i64, .int .i64, .int .i64, .int .i64]) rs)]), .list (.big (.agg [.int .i64, .int .i64, .int .i64]) l)]=>some (decide (ZaB ms ks rs=true∧l.length≤1000000), .tup [.list (.ints .i64 (Zk3 ms ks rs l)), .int .i64 (Zls ms ks rs l)],Zl2) |_=>none⟩
theorem Zzd:k24.OK Tryz.prog:=fun pa args r fr h=>by
 simp only[k24]at h
 split at h
 ·simp only[Option.some.injEq,Prod.mk.injEq,decide_eq_true_eq]at h
  obtain⟨h0,rfl,rfl⟩:=h
  exact Znk _ _ _ _ h0
 ·cases h
def Bf:List Ctr:=[k24]++Be
theorem ZBP:ZaK Tryz.prog Bf:=⟨Zzd,ZBA⟩
end Go.Proofs.YtkeoeooghhjibaaGreatDoor
/- The earliest time: the least feasible candidate. No condition. -/
namespace Go.Proofs.YtkeoeooghhjibaaGreatDoor
theorem ZjX{rs:List AV}{a t:Int}{xs:List Int}{c:Int} :∀(m i:Nat),ZhC rs a t xs c m i=i+m↔∀j,i≤j→j<i+m→Zhw rs a t xs c j=false
 |0,i=>⟨fun _ j h1 h2=>by omega,fun _=>rfl⟩
 |m+1,i=>by
  unfold ZhC
  have ih:=ZjX (rs:=rs) (a:=a) (t:=t) (xs:=xs) (c:=c) m (i+1)
  constructor
  ·intro h j h1 h2
   split at h
   ·omega
   ·rename_i hb
    by_cases hj:j=i
    ·subst hj;simpa using hb
    ·exact ih.1 (by omega) j (by omega) (by omega)
  ·intro h
   rw[if_neg (by rw[h i (by omega) (by omega)];simp)]
   have:=ih.2 fun j h1 h2=>h j (by omega) (by omega)
   omega
theorem ZdP{rs:List AV}{a t:Int}{xs:List Int}{c:Int} :ZcI rs a t xs c=true↔∀i<rs.length,Zhw rs a t xs c i=false:=by
 unfold ZcI
 rw[decide_eq_true_eq]
 have:=ZjX (rs:=rs) (a:=a) (t:=t) (xs:=xs) (c:=c) rs.length 0
 rw[Nat.zero_add]at this
 rw[this]
 exact⟨fun h i hi=>h i (Nat.zero_le _) hi,fun h j _ hj=>h j hj⟩
theorem ZjP{rs:List AV}{a t:Int}{xs:List Int}{c:Int}(hn:∀i<rs.length,Zau rs i≠[]):∀(m i:Nat),i+m=rs.length→(Zc7 rs a t xs c m i=[]↔∀j,i≤j→j<rs.length→Zhw rs a t xs c j=false)
 |0,i,h=>⟨fun _ j h1 h2=>by omega,fun _=>rfl⟩
 |m+1,i,h=>by
  unfold Zc7
  have ih:=ZjP (a:=a) (t:=t) (xs:=xs) (c:=c) hn m (i+1) (by omega)
  constructor
  ·intro hh j h1 h2
   split at hh
   ·exact absurd hh (hn i (by omega))
   ·rename_i hb
    by_cases hj:j=i
    ·subst hj;simpa using hb
    ·exact ih.1 hh j (by omega) h2
  ·intro hh
   rw[if_neg (by rw[hh i (by omega) (by omega)];simp)]
   exact ih.2 fun j h1 h2=>hh j (by omega) h2
theorem ZhK{rs:List AV}{a t:Int}{xs:List Int}{c:Int}(hn:∀i<rs.length,Zau rs i≠[]):Zc7 rs a t xs c rs.length 0=[]↔ZcI rs a t xs c=true:=by
 rw[ZjP hn rs.length 0 (by omega),ZdP]
 exact⟨fun h i hi=>h i (Nat.zero_le _) hi,fun h j _ hj=>h j hj⟩
theorem Zmn{rs:List AV}{a:Int}{xs:List Int}{q B:Int} :∀(m i:Nat) (t:Int),i+m=rs.length→t≤B→(∀j<rs.length,ZkF rs a xs q j=true→Zjr rs xs j≤B)→Zbw rs a xs q m i t≤B
 |0,_,_,_,h,_=>h
 |m+1,i,t,hk,h,hg=>by
  unfold Zbw
  refine Zmn m (i+1) _ (by omega) ?_ hg
  split
  ·rename_i hb
   have:=hg i (by omega) hb;omega
  ·exact h
theorem Zj0{rs:List AV}{a:Int}{xs:List Int}{q:Int} :∀(m i:Nat) (t:Int) (j:Nat),i≤j→j<i+m→ZkF rs a xs q j=true→Zjr rs xs j≤Zbw rs a xs q m i t
 |0,i,t,j,h1,h2,_=>by omega
 |m+1,i,t,j,h1,h2,hb=>by
  unfold Zbw
  by_cases hj:j=i
  ·subst hj
   rw[if_pos hb]
   have:=Zc4 rs a xs q m (j+1) (max t (Zjr rs xs j));omega
  ·exact Zj0 m (i+1) _ j (by omega) (by omega) hb
def Zgd(rs:List AV)(xs:List Int):Nat→Nat→List Int
 |0,_=>[]
 |m+1,i=>if Zag rs i 3≠ -1∧xs.getD (Zag rs i 3).toNat 0≠ -1 then Zjr rs xs i::Zgd rs xs m (i+1)else Zgd rs xs m (i+1)
theorem Zg8{rs:List AV}{a:Int}{xs:List Int}{q:Int} :∀(m i:Nat) (t:Int),Zbw rs a xs q m i t=t∨Zbw rs a xs q m i t∈Zgd rs xs m i
 |0,_,_=>.inl rfl
 |m+1,i,t=>by
  unfold Zbw Zgd
  by_cases hb:ZkF rs a xs q i=true
  ·have hc:Zag rs i 3≠ -1∧xs.getD (Zag rs i 3).toNat 0≠ -1:=by
    simp only[ZkF,Bool.and_eq_true,decide_eq_true_eq]at hb
    exact⟨hb.1.1,hb.2⟩
   rw[if_pos hb,if_pos hc]
   rcases Zg8 (rs:=rs) (a:=a) (xs:=xs) (q:=q) m (i+1) (max t (Zjr rs xs i))with h |h
   ·rw[h]
    by_cases hm:Zjr rs xs i≤t
    ·exact .inl (by omega)
    ·exact .inr (by rw[show max t (Zjr rs xs i)=Zjr rs xs i by omega];exact List.mem_cons_self)
   ·exact .inr (List.mem_cons_of_mem _ h)
  ·rw[if_neg hb]
   rcases Zg8 (rs:=rs) (a:=a) (xs:=xs) (q:=q) m (i+1) t with h |h
   ·exact .inl h
   ·refine .inr ?_
    split
    ·exact List.mem_cons_of_mem _ h
    ·exact h
def ZbP(f:Int→Bool):List Int→Int→Bool→Int×Bool
 |[],n,fd=>(n,fd)
 |t::ts,n,fd=>if f t=true∧(fd=false∨t<n)then ZbP f ts t true else ZbP f ts n fd
theorem Zg6{f:Int→Bool} :∀(L:List Int) (n:Int),(ZbP f L n true).2=true∧((ZbP f L n true).1=n∨((ZbP f L n true).1∈L∧f (ZbP f L n true).1=true))∧(ZbP f L n true).1≤n∧∀t∈L,f t=true→(ZbP f L n true).1≤t
 |[],n=>⟨rfl, .inl rfl,Int.le_refl _,fun t ht=>by cases ht⟩
 |x::L,n=>by
  unfold ZbP
  split
  ·rename_i hx
   obtain⟨h1,h2,h3,h4⟩:=Zg6 (f:=f) L x
   have hlt:x<n:=by
    rcases hx.2 with h |h
    ·cases h
    ·exact h
   refine⟨h1,?_,by omega,fun t ht hf=>?_⟩
   ·rcases h2 with h2 |⟨h2,h5⟩
    ·rw[h2];exact .inr ⟨List.mem_cons_self,hx.1⟩
    ·exact .inr ⟨List.mem_cons_of_mem _ h2,h5⟩
   ·rcases List.mem_cons.1 ht with rfl |ht
    ·exact h3
    ·exact h4 t ht hf
  ·rename_i hx
   obtain⟨h1,h2,h3,h4⟩:=Zg6 (f:=f) L n
   refine⟨h1,?_,h3,fun t ht hf=>?_⟩
   ·rcases h2 with h2 |⟨h2,h5⟩
    ·exact .inl h2
    ·exact .inr ⟨List.mem_cons_of_mem _ h2,h5⟩
   ·rcases List.mem_cons.1 ht with rfl |ht
    ·have:¬t<n:=fun h=>hx ⟨hf, .inr h⟩
     omega
    ·exact h4 t ht hf
theorem Zft{f:Int→Bool} :∀(L:List Int) (n:Int),((∀ t∈L,f t=false)→ZbP f L n false=(n,false))∧∀T∈L,f T=true→(∀t∈L,f t=true→T≤t)→ZbP f L n false=(T,true)
 |[],n=>⟨fun _=>rfl,fun T hT=>by cases hT⟩
 |x::L,n=>by
  obtain⟨h1,h2⟩:=Zft (f:=f) L n
  refine⟨fun h=>?_,fun T hT hf hm=>?_⟩
  ·unfold ZbP
   rw[if_neg (by rw[h x List.mem_cons_self];simp)]
   exact h1 fun t ht=>h t (List.mem_cons_of_mem _ ht)
  ·unfold ZbP
   by_cases hx:f x=true
   ·rw[if_pos ⟨hx, .inl rfl⟩]
    obtain⟨g1,g2,g3,g4⟩:=Zg6 (f:=f) L x
    have hTx:=hm x List.mem_cons_self hx
    have h5:(ZbP f L x true).1≤T:=by
     rcases List.mem_cons.1 hT with rfl |hT
     ·exact g3
     ·exact g4 T hT hf
    have h6:T≤(ZbP f L x true).1:=by
     rcases g2 with g2 |⟨g2,g5⟩
     ·rw[g2];exact hTx
     ·exact hm _ (List.mem_cons_of_mem _ g2) g5
    exact Prod.ext (Int.le_antisymm h5 h6) g1
   ·rw[if_neg (fun h=>hx h.1)]
    refine h2 T ?_ hf fun t ht=>hm t (List.mem_cons_of_mem _ ht)
    rcases List.mem_cons.1 hT with rfl |hT
    ·exact absurd hf hx
    ·exact hT
def Zbt(rs:List AV)(a b:Int)(xs:List Int)(c d e t:Int):Bool:=decide (b≤t)&&(Zae t d e&&ZcI rs a t xs c)
theorem ZoG{rs:List AV}{a b:Int}{xs:List Int}{c d e:Int} :ZbP (Zbt rs a b xs c d e) ([b,d]++Zgd rs xs rs.length 0) 0 false=if Zh5 rs a (Zbw rs a xs c rs.length 0 (max b d)) xs c d e=true then(Zbw rs a xs c rs.length 0 (max b d),true)else(0,false):=by
 have hge:=Zc4 rs a xs c rs.length 0 (max b d)
 obtain⟨T,hT⟩:∃T,T=Zbw rs a xs c rs.length 0 (max b d):=⟨_,rfl⟩
 rw[←hT]at hge⊢
 have low:∀t,Zbt rs a b xs c d e t=true→T≤t:=fun t ht=>by
  simp only[Zbt,Bool.and_eq_true,decide_eq_true_eq,within_iff,ZdP]at ht
  obtain⟨h1,h2,h3⟩:=ht
  rw[hT]
  refine Zmn rs.length 0 _ (by omega) (by omega) fun j hj hb=>?_
  have h4:=h3 j hj
  simp only[ZkF,Zmj,Bool.and_eq_true,decide_eq_true_eq]at hb
  simp only[Zhw,decide_eq_false_iff_not]at h4
  unfold Zjr
  by_cases h7:t-xs.getD (Zag rs j 3).toNat 0<Zag rs j 4
  ·exact absurd ⟨hb.1.2.1,hb.1.2.2, .inr ⟨hb.2,h7⟩⟩ h4
  ·omega
 have up:∀t,Zbt rs a b xs c d e t=true→Zh5 rs a T xs c d e=true:=fun t ht=>by
  have hl:=low t ht
  simp only[Zbt,Bool.and_eq_true,decide_eq_true_eq,within_iff,ZdP]at ht
  obtain⟨h1,h2,h3⟩:=ht
  simp only[Zh5,Bool.and_eq_true,within_iff,ZdP]
  refine⟨by omega,fun j hj=>?_⟩
  have h4:=h3 j hj
  simp only[Zhw,decide_eq_false_iff_not]at h4⊢
  intro h5
  refine h4 ⟨h5.1,h5.2.1,?_⟩
  rcases h5.2.2 with h6 |h6
  ·exact .inl h6
  ·by_cases h7:Zag rs j 3= -1
   ·exact .inl h7
   ·have hb:ZkF rs a xs c j=true:=by
     simp only[ZkF,Zmj,Bool.and_eq_true,decide_eq_true_eq]
     exact⟨⟨h7,h5.1,h5.2.1⟩,h6.1⟩
    have:=Zj0 (rs:=rs) (a:=a) (xs:=xs) (q:=c) rs.length 0 (max b d) j (Nat.zero_le _) (by omega) hb
    rw[←hT]at this
    unfold Zjr at this
    omega
 have mem:T∈[b,d]++Zgd rs xs rs.length 0:=by
  rcases Zg8 (rs:=rs) (a:=a) (xs:=xs) (q:=c) rs.length 0 (max b d)with h |h
  ·rw[←hT]at h
   have:T=b∨T=d:=by omega
   simp only[List.cons_append,List.nil_append,List.mem_cons]
   rcases this with h |h
   ·exact .inl h
   ·exact .inr (.inl h)
  ·rw[←hT]at h
   simp only[List.cons_append,List.nil_append,List.mem_cons]
   exact .inr (.inr h)
 by_cases hac:Zh5 rs a T xs c d e=true
 ·rw[if_pos hac]
  refine(Zft _ 0).2 T mem ?_ fun t _ ht=>low t ht
  unfold Zbt
  unfold Zh5 at hac
  rw[hac,decide_eq_true (by omega)];rfl
 ·rw[if_neg hac]
  refine(Zft _ 0).1 fun t _=>?_
  cases hf:Zbt rs a b xs c d e t
  ·rfl
  ·exact absurd (up t hf) hac
end Go.Proofs.YtkeoeooghhjibaaGreatDoor
