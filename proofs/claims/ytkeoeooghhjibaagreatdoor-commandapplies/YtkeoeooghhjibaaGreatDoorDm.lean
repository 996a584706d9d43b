/- Paths of functions, printed by the explorer (Gx). No condition. -/
import Derived.Test.YtkeoeooghhjibaaGreatDoorDo
import Derived.KernelRfl
namespace Go.Proofs.YtkeoeooghhjibaaGreatDoor
variable {A:Ar}{K:KT}{F:FT}{M:MT}
set_option maxRecDepth 100000
set_option linter.unusedVariables false
def ZDO(ms ks rs l:zA)(wn fl at0 mo:Int)(dn:zA)(ha:Bool)(ba:Int)(to:Bool)(dw:zI)(up:zA)(ek en:Int):AFrame:=vF 40 34 [(0,vU ms ks rs l wn fl),(1,vS at0 mo dn ha ba to dw up),(2,AV.agg (vx [.int .i64 ek, .int .i64 en]))] [.code a40.code] [ARes.cell 6 true 8,.tmp 7]
def ZMv(ms ks rs l:zA)(wn fl at0 mo:Int)(dn:zA)(ha:Bool)(ba:Int)(to:Bool)(dw:zI)(up:zA)(ek en:Int):List AFrame:=[(ZDO ms ks rs l wn fl at0 mo dn ha ba to dw up ek en)]
theorem ZAl(ms ks rs l:zA)(wn fl at0 mo:Int)(dn:zA)(ha:Bool)(ba:Int)(to:Bool)(dw:zI)(up:zA)(ek en:Int):Zam tab 40 [vU ms ks rs l wn fl,vS at0 mo dn ha ba to dw up,AV.agg (Row.gen [.int .i64 ek, .int .i64 en])]=some (ZDO ms ks rs l wn fl at0 mo dn ha ba to dw up ek en):=rfl
def Zis(ms ks rs l:zA)(wn fl at0 mo:Int)(dn:zA)(ha:Bool)(ba:Int)(to:Bool)(dw:zI)(up:zA)(ek en n0:Int)(l1:zI)(n2 n3 n4:Int):List AFrame:=[vF 80 228 [vP 2 80003,vP 3 80004,vP 7 69009,(66,vl vsD dn),vI 67 n0,vI 68 n2] (vC Zys ZGJ) [.tmp 4,.tmp 5],vF 40 34 [(0,vU ms ks rs l wn fl),(1,vS at0 mo dn ha ba to dw up),(2,AV.agg (vx [.int .i64 ek, .int .i64 en])),vP 3 40004,vP 4 40005,vP 5 40006,vP 6 40007,vI 7 0,(11,vU ms ks rs l wn fl),(12,vS at0 mo dn ha ba to dw up)] v1Q [ARes.cell 6 true 8,.tmp 7]]
def ZgR(ms ks rs l:zA)(wn fl at0 mo:Int)(dn:zA)(ha:Bool)(ba:Int)(to:Bool)(dw:zI)(up:zA)(ek en n0:Int)(l1:zI)(n2 n3 n4:Int):Zad:=[vH 40004 29 6 (vx [vU ms ks rs l wn fl]),vH 40005 37 8 (vx [vS at0 mo dn ha ba to dw up]),vH 40006 63 2 (vx [AV.agg (vx [vi ek,vi en])]),vH 40007 37 8 (vx [AV.agg (vx [vi 0,vi 0,AV.nils,vb false,vi 0,vb false,AV.nils,AV.nils])]),vH 69009 127 15 (vx [AV.agg (vx [AV.list (Row.big .str ms),vl vsK ks,vl vsR rs,vl vsA l,vi wn,vi fl,vi at0,vi mo,vw 125011,vb ha,vi ba,vb to,vw 125014,vw 125017,vp 72012])]),vK 72009 l1,vH 72012 137 6 (vx [AV.agg (vx [AV.list (Row.big .str ms),vl vsK ks,vl vsR rs,vi n3,vi n4,vw 72009])]),vH 80003 29 6 (vx [vU ms ks rs l wn fl]),vH 80004 37 8 (vx [vS at0 mo dn ha ba to dw up]),vH 125011 78 2 (Row.big vsD dn),vK 125014 dw,vH 125017 129 2 (Row.big vsU up)]
abbrev ZbY(ms ks rs l:zA)(wn fl at0 mo:Int)(dn:zA)(ha:Bool)(ba:Int)(to:Bool)(dw:zI)(up:zA)(ek en n0:Int)(l1:zI)(n2 n3 n4:Int):List AFrame×Zad:=(Zis ms ks rs l wn fl at0 mo dn ha ba to dw up ek en n0 l1 n2 n3 n4,ZgR ms ks rs l wn fl at0 mo dn ha ba to dw up ek en n0 l1 n2 n3 n4)
def Zes(ms ks rs l:zA)(wn fl at0 mo:Int)(dn:zA)(ha:Bool)(ba:Int)(to:Bool)(dw:zI)(up:zA)(ek en:Int)(l1:zI)(n3 n5 n6 n7 n8:Int):List AFrame:=[vF 137 19 [vL 0 dw,(1,AV.fn 126 [vp 80003]),vI 7 n5,vI 8 n8] (vC Zpo Zr9) [.tmp 4],vF 90 9 [vL 0 dw,(1,AV.fn 126 [vp 80003]),vB 4 false,vL 5 dw,(6,AV.fn 126 [vp 80003])] v9Q [.tmp 4],  { fn:=80,N:=228,env:=[vP 2 80003,vP 3 80004,vP 7 69009,vI 12 n6,(142,AV.ptr 80004 0 0 2),(143,vl vsD dn),vI 144 n7,(145,AV.ptr 80004 0 0 6),vL 146 dw,(147,AV.fn 126 [vp 80003])],    todo:=      [.inReg v13Q,        .code          (.seq            (.reg (some [])              (have y:=                have y:=                  have y:=v10Q;                  { d:=some 185,g:=some (183,true),k:=OpK.load false 1 (.t 184) } :: { d:=some 186,g:=some (183,true),k:=OpK.mov (.t 12) } :: { d:=some 187,g:=some (183,true),k:=OpK.bin Go.BinOp.eql (.t 185) (.t 186) } :: { d:=some 188,g:=some (180,false),k:=OpK.pick (.t 183) (.t 187) (.c (vb false)) } ::oN 189 (.pick (.t 180) (.c (vb true)) (.t 188))::oN 190 (.ncall true 0 68 [.t 189,cI 3])::y;                have y:=oN 179 (.not (.t 178))::mV 180 179:: { d:=some 181,g:=some (180,false),k:=OpK.faddr 3 (.t 3) } :: { d:=some 182,g:=some (180,false),k:=OpK.load false 1 (.t 181) } :: { d:=some 183,g:=some (180,false),k:=OpK.mov (.t 182) } :: { d:=some 184,g:=some (183,true),k:=OpK.faddr 4 (.t 3) } ::y;                oN 173 (.load false 1 (.t 172))::mV 174 12::oN 175 (.ncall true 0 82 [.t 173,cI 0,.t 174])::oN 176 (.ncall true 0 68 [.t 175,cI 2])::oN 177 (.faddr 5 (.t 3))::oN 178 (.load false 1 (.t 177))::y;              have y:=                have y:={ d:=some 167,g:=some (164,false),k:=OpK.load false 1 (.t 166) } :: { d:=some 168,g:=some (164,false),k:=OpK.len (.t 167) } :: { d:=some 169,g:=some (164,false),k:=OpK.bin Go.BinOp.lss (.t 165) (.t 168) } ::oN 170 (.pick (.t 164) (.c (vb true)) (.t 169))::oN 171 (.ncall true 0 68 [.t 170,cI 21])::oN 172 (.faddr 4 (.t 3))::y;                oN 161 (.faddr 3 (.t 3))::oN 162 (.load false 1 (.t 161))::oN 163 (.not (.t 162))::mV 164 163:: { d:=some 165,g:=some (164,false),k:=OpK.mov (.t 12) } :: { d:=some 166,g:=some (164,false),k:=OpK.faddr 3 (.t 2) } ::y;              have y:=oN 155 (.nilck (.t 154))::oN 156 (.faddr 3 (.t 155))::oN 157 (.faddr 0 (.t 156))::oN 158 (.load false 1 (.t 157))::oN 159 (.bin Go.BinOp.eql (.t 150) (.t 158))::oN 160 (.ncall true 0 68 [.t 159,cI 3])::y;              oN 149 (.faddr 1 (.t 3))::oN 150 (.load false 1 (.t 149))::mV 151 7::oN 152 (.nilck (.t 151))::oN 153 (.faddr 14 (.t 152))::oN 154 (.load false 1 (.t 153))::y))            v11Q)],    defs:=[],rnd:=none,ret:=false,res:=[.tmp 4,.tmp 5] },  vF 40 34 [(0,vU ms ks rs l wn fl),(1,vS at0 mo dn ha ba to dw up),(2,AV.agg (vx [.int .i64 ek, .int .i64 en])),vP 3 40004,vP 4 40005,vP 5 40006,vP 6 40007,vI 7 0,(11,vU ms ks rs l wn fl),(12,vS at0 mo dn ha ba to dw up)] v1Q [ARes.cell 6 true 8,.tmp 7]]
def ZdF(ms ks rs l:zA)(wn fl at0 mo:Int)(dn:zA)(ha:Bool)(ba:Int)(to:Bool)(dw:zI)(up:zA)(ek en:Int)(l1:zI)(n3 n5 n6 n7 n8:Int):Zad:=[vH 40004 29 6 (vx [vU ms ks rs l wn fl]),vH 40005 37 8 (vx [vS at0 mo dn ha ba to dw up]),vH 40006 63 2 (vx [AV.agg (vx [vi ek,vi en])]),vH 40007 37 8 (vx [AV.agg (vx [vi 0,vi 0,AV.nils,vb false,vi 0,vb false,AV.nils,AV.nils])]),vH 69009 127 15 (vx [AV.agg (vx [AV.list (Row.big .str ms),vl vsK ks,vl vsR rs,vl vsA l,vi wn,vi fl,vi at0,vi mo,vw 125011,vb ha,vi ba,vb to,vw 125014,vw 125017,vp 72012])]),vK 72009 l1,vH 72012 137 6 (vx [AV.agg (vx [AV.list (Row.big .str ms),vl vsK ks,vl vsR rs,vi n3,vi at0,vw 72009])]),vH 80003 29 6 (vx [vU ms ks rs l wn fl]),vH 80004 37 8 (vx [vS at0 mo dn ha ba to dw up]),vH 125011 78 2 (Row.big vsD dn),vK 125014 dw,vH 125017 129 2 (Row.big vsU up)]
abbrev Zio(ms ks rs l:zA)(wn fl at0 mo:Int)(dn:zA)(ha:Bool)(ba:Int)(to:Bool)(dw:zI)(up:zA)(ek en:Int)(l1:zI)(n3 n5 n6 n7 n8:Int):List AFrame×Zad:=(Zes ms ks rs l wn fl at0 mo dn ha ba to dw up ek en l1 n3 n5 n6 n7 n8,ZdF ms ks rs l wn fl at0 mo dn ha ba to dw up ek en l1 n3 n5 n6 n7 n8)
def Za2(ms ks rs l:zA)(wn fl at0 mo:Int)(dn:zA)(ha:Bool)(ba:Int)(to:Bool)(dw:zI)(up:zA)(ek en:Int)(l1:zI)(n3 n6 n9 n10 n11:Int):List AFrame:=[vF 80 228 [vP 3 80004,vP 7 69009,vI 8 n9,vI 12 n6,(197,vl vsU up),vI 198 n10,vI 199 n11] (vC Zzt ZEf) [.tmp 4,.tmp 5],vF 40 34 [(0,vU ms ks rs l wn fl),(1,vS at0 mo dn ha ba to dw up),(2,AV.agg (vx [.int .i64 ek, .int .i64 en])),vP 3 40004,vP 4 40005,vP 5 40006,vP 6 40007,vI 7 0,(11,vU ms ks rs l wn fl),(12,vS at0 mo dn ha ba to dw up)] v1Q [ARes.cell 6 true 8,.tmp 7]]
def ZaV(ms ks rs l:zA)(wn fl at0 mo:Int)(dn:zA)(ha:Bool)(ba:Int)(to:Bool)(dw:zI)(up:zA)(ek en:Int)(l1:zI)(n3 n6 n9 n10 n11:Int):Zad:=[vH 40004 29 6 (vx [vU ms ks rs l wn fl]),vH 40005 37 8 (vx [vS at0 mo dn ha ba to dw up]),vH 40006 63 2 (vx [AV.agg (vx [vi ek,vi en])]),vH 40007 37 8 (vx [AV.agg (vx [vi 0,vi 0,AV.nils,vb false,vi 0,vb false,AV.nils,AV.nils])]),vH 69009 127 15 (vx [AV.agg (vx [AV.list (Row.big .str ms),vl vsK ks,vl vsR rs,vl vsA l,vi wn,vi fl,vi at0,vi mo,vw 125011,vb ha,vi ba,vb to,vw 125014,vw 125017,vp 72012])]),vK 72009 l1,vH 72012 137 6 (vx [AV.agg (vx [AV.list (Row.big .str ms),vl vsK ks,vl vsR rs,vi n3,vi at0,vw 72009])]),vH 80004 37 8 (vx [vS at0 mo dn ha ba to dw up]),vH 125011 78 2 (Row.big vsD dn),vK 125014 dw,vH 125017 129 2 (Row.big vsU up)]
abbrev ZaX(ms ks rs l:zA)(wn fl at0 mo:Int)(dn:zA)(ha:Bool)(ba:Int)(to:Bool)(dw:zI)(up:zA)(ek en:Int)(l1:zI)(n3 n6 n9 n10 n11:Int):List AFrame×Zad:=(Za2 ms ks rs l wn fl at0 mo dn ha ba to dw up ek en l1 n3 n6 n9 n10 n11,ZaV ms ks rs l wn fl at0 mo dn ha ba to dw up ek en l1 n3 n6 n9 n10 n11)
def Znh(A:Ar)(K:KT)(F:FT)(ms ks rs l:zA)(wn fl at0 mo:Int)(dn:zA)(ha:Bool)(ba:Int)(to:Bool)(dw:zI)(up:zA)(ek en:Int):Prop:=let u0:=rB [!A.eq (Zae [Zae [Zaa (Zab at0 0 1000000000000) 2,8],evE ek en]) 0] (rB [A.not (A.eq (Zae [Zae [Zaa (Zab at0 0 1000000000000) 2,8],evE ek en]) 0)] (F (AV.tup [AV.agg (Row.gen [.int .i64 0, .int .i64 0,AV.nils, .bool false, .int .i64 0, .bool false,AV.nils,AV.nils]),AV.int .i64 (Zae [Zae [Zaa (Zab at0 0 1000000000000) 2,8],evE ek en])]) none));let u1:=A.int (A.lenA up);let u2:=A.int (A.lenA dn);let u3:=A.lenA ks;let u4:=A.int (A.len dw);let u5:=A.int u3;rB [decide (ZaC ms ks rs=true∧List.length l≤1000000)] (bB (A.not (A.eq (upE ms ks rs l wn fl) 0)) (rB [decide (List.length [upE ms ks rs l wn fl,evE ek en]≤1000000),List.all [AV.int .i64 (upE ms ks rs l wn fl),AV.int .i64 (evE ek en)] fun x=>AV.bx x&&Nat.beq (Zac A x) 1] (rB [!A.eq (Zae [upE ms ks rs l wn fl,evE ek en]) 0] (rB [A.not (A.eq (Zae [upE ms ks rs l wn fl,evE ek en]) 0)] (F (AV.tup [AV.agg (Row.gen [.int .i64 0, .int .i64 0,AV.nils, .bool false, .int .i64 0, .bool false,AV.nils,AV.nils]),AV.int .i64 (Zae [upE ms ks rs l wn fl,evE ek en])]) none)))) (Zu3 4 (rB [decide (List.length up≤1000000),decide (List.length dw≤1000000),decide (List.length dn≤1000000),decide ([-1]=[-1]∧0≤A.int u3∧A.int u3≤8),List.all [AV.int .i64 (-1)] fun x=>AV.bx x&&Nat.beq (Zac A x) 1] (qB [decide (List.length [Zaa (Zab at0 0 1000000000000) 2,Zaa (A.le u1 fl) 8]≤1000000),List.all [AV.int .i64 (Zaa (Zab at0 0 1000000000000) 2),AV.int .i64 (Zaa (A.le u1 fl) 8)] fun x=>AV.bx x&&Nat.beq (Zac A x) 1,A.le u4 fl,A.le u2 (A.int (A.lenA l))] (bB (A.not (A.eq (Zae [Zaa (Zab at0 0 1000000000000) 2,Zaa (A.le u1 fl) 8]) 0)) (rB [decide (List.length [Zae [Zaa (Zab at0 0 1000000000000) 2,Zaa (A.le u1 fl) 8],evE ek en]≤1000000),List.all [AV.int .i64 (Zae [Zaa (Zab at0 0 1000000000000) 2,Zaa (A.le u1 fl) 8]),AV.int .i64 (evE ek en)] fun x=>AV.bx x&&Nat.beq (Zac A x) 1] (rB [!A.eq (Zae [Zae [Zaa (Zab at0 0 1000000000000) 2,Zaa (A.le u1 fl) 8],evE ek en]) 0] (rB [A.not (A.eq (Zae [Zae [Zaa (Zab at0 0 1000000000000) 2,Zaa (A.le u1 fl) 8],evE ek en]) 0)] (F (AV.tup [AV.agg (Row.gen [.int .i64 0, .int .i64 0,AV.nils, .bool false, .int .i64 0, .bool false,AV.nils,AV.nils]),AV.int .i64 (Zae [Zae [Zaa (Zab at0 0 1000000000000) 2,Zaa (A.le u1 fl) 8],evE ek en])]) none)))) (K (ZbY ms ks rs l wn fl at0 mo dn ha ba to dw up ek en u2 (List.replicate (Int.toNat u5) (-1)) 0 0 0))) (qB [decide (List.length [Zaa (Zab at0 0 1000000000000) 2,8]≤1000000),List.all [AV.int .i64 (Zaa (Zab at0 0 1000000000000) 2),AV.int .i64 8] fun x=>AV.bx x&&Nat.beq (Zac A x) 1,!A.le u4 fl,A.le u2 (A.int (A.lenA l))] (bB (A.not (A.eq (Zae [Zaa (Zab at0 0 1000000000000) 2,8]) 0)) (rB [decide (List.length [Zae [Zaa (Zab at0 0 1000000000000) 2,8],evE ek en]≤1000000),List.all [AV.int .i64 (Zae [Zaa (Zab at0 0 1000000000000) 2,8]),AV.int .i64 (evE ek en)] fun x=>AV.bx x&&Nat.beq (Zac A x) 1] u0) (K (ZbY ms ks rs l wn fl at0 mo dn ha ba to dw up ek en u2 (List.replicate (Int.toNat u5) (-1)) 0 0 0))) (rB [decide (List.length [Zaa (Zab at0 0 1000000000000) 2,8]≤1000000),List.all [AV.int .i64 (Zaa (Zab at0 0 1000000000000) 2),AV.int .i64 8] fun x=>AV.bx x&&Nat.beq (Zac A x) 1,!A.le u2 (A.int (A.lenA l))] (bB (A.not (A.eq (Zae [Zaa (Zab at0 0 1000000000000) 2,8]) 0)) (rB [decide (List.length [Zae [Zaa (Zab at0 0 1000000000000) 2,8],evE ek en]≤1000000),List.all [AV.int .i64 (Zae [Zaa (Zab at0 0 1000000000000) 2,8]),AV.int .i64 (evE ek en)] fun x=>AV.bx x&&Nat.beq (Zac A x) 1] u0) (K (ZbY ms ks rs l wn fl at0 mo dn ha ba to dw up ek en u2 (List.replicate (Int.toNat u5) (-1)) 0 0 0)))))))))
theorem ZKa{ms ks rs l:zA}{wn fl at0 mo:Int}{dn:zA}{ha:Bool}{ba:Int}{to:Bool}{dw:zI}{up:zA}{ek en:Int} :Zaw A tab Bn 40 K F M (.run 32 (.tf (.run 30 (.fy (.run 7 (.ty (.run 8 (.fn)))))) (.run 11 (.any (.run 64 (.alt [true,true] (.run 7 (.tf (.run 30 (.fy (.run 7 (.ty (.run 8 (.fn)))))) (.run 12 (.hd)))) (.alt [true,false] (.run 7 (.tf (.run 30 (.fy (.run 7 (.ty (.run 8 (.fn)))))) (.run 12 (.hd)))) (.alt [false,false] (.run 7 (.tf (.run 30 (.fy (.run 7 (.ty (.run 8 (.fn)))))) (.run 12 (.hd)))) (.no))))))))) (ZMv ms ks rs l wn fl at0 mo dn ha ba to dw up ek en) []=Znh A K F ms ks rs l wn fl at0 mo dn ha ba to dw up ek en:=by kernel_rfl
def Zbe(A:Ar)(K:KT)(F:FT)(ms ks rs l:zA)(wn fl at0 mo:Int)(dn:zA)(ha:Bool)(ba:Int)(to:Bool)(dw:zI)(up:zA)(ek en n0:Int)(l1:zI)(n2 n3 n4:Int):Prop:=let u0:=rB [!A.eq (Zae [9,evE ek en]) 0] (rB [A.not (A.eq (Zae [9,evE ek en]) 0)] (F (AV.tup [AV.agg (Row.gen [.int .i64 0, .int .i64 0,AV.nils, .bool false, .int .i64 0, .bool false,AV.nils,AV.nils]),AV.int .i64 (Zae [9,evE ek en])]) none));let u1:=A.nat n2;let u2:=A.nthA dn u1;let u3:=rB [!A.eq (Zae [26,evE ek en]) 0] (rB [A.not (A.eq (Zae [26,evE ek en]) 0)] (F (AV.tup [AV.agg (Row.gen [.int .i64 0, .int .i64 0,AV.nils, .bool false, .int .i64 0, .bool false,AV.nils,AV.nils]),AV.int .i64 (Zae [26,evE ek en])]) none));let u4:=A.add n2 1;let u5:=A.sub n2 1;let u6:=A.lenA dn;let u7:=A.len l1;bB (A.lt n2 n0) (rB [Zag (Zag (A.le 0 n2) (Nat.blt u1 u6)) true] (qB [A.eq n2 0,A.le (u2.cellAt 1).toI at0,A.eq (u2.cellAt 0).toI n2] (rB [!A.not true] (rB [decide (Zab (u2.cellAt 1).toI ((A.nthA l u1).cellAt 1).toI ((A.nthA l u1).cellAt 2).toI=false∨Zbx rs (u2.cellAt 1).toI l1=true),Zag (Zag (A.le 0 n2) (Nat.blt u1 (A.lenA l))) true] (bB (A.not (ZhL rs n3 (u2.cellAt 1).toI l1 ((A.nthA l u1).cellAt 0).toI ((A.nthA l u1).cellAt 1).toI ((A.nthA l u1).cellAt 2).toI)) (rB [decide (List.length [26,evE ek en]≤1000000),List.all [AV.int .i64 26,AV.int .i64 (evE ek en)] fun x=>AV.bx x&&Nat.beq (Zac A x) 1] u3) (rB [Zag (Zag (A.le 0 ((A.nthA l u1).cellAt 0).toI) (Nat.blt (A.nat ((A.nthA l u1).cellAt 0).toI) (A.lenA ks))) true,Zag (Nat.blt (A.nat ((A.nthA l u1).cellAt 0).toI) u7) true,Zag (A.le 0 ((A.nthA l u1).cellAt 0).toI) (Nat.blt (A.nat ((A.nthA l u1).cellAt 0).toI) u7),Zag (Zag (A.le 0 n2) (Nat.blt u1 (A.lenA l))) true] (bB (A.not (A.eq ((A.nthA ks (A.nat ((A.nthA l u1).cellAt 0).toI)).cellAt 1).toI (-1))) (rB [A.inR .i64 u4] (K (ZbY ms ks rs l wn fl at0 mo dn ha ba to dw up ek en n0 (A.set l1 (A.nat ((A.nthA l u1).cellAt 0).toI) (u2.cellAt 1).toI) u4 ((A.nthA ks (A.nat ((A.nthA l u1).cellAt 0).toI)).cellAt 1).toI (u2.cellAt 1).toI))) (rB [A.inR .i64 u4] (K (ZbY ms ks rs l wn fl at0 mo dn ha ba to dw up ek en n0 (A.set l1 (A.nat ((A.nthA l u1).cellAt 0).toI) (u2.cellAt 1).toI) u4 n3 (u2.cellAt 1).toI)))))))) (qB [Zag (Zag (A.le 0 u5) (Nat.blt (A.nat u5) u6)) true,A.inR .i64 u5,!A.eq n2 0,A.le (u2.cellAt 1).toI at0,A.eq (u2.cellAt 0).toI n2] (bB (A.not (A.le ((A.nthA dn (A.nat u5)).cellAt 1).toI (u2.cellAt 1).toI)) (rB [decide (List.length [9,evE ek en]≤1000000),List.all [AV.int .i64 9,AV.int .i64 (evE ek en)] fun x=>AV.bx x&&Nat.beq (Zac A x) 1] u0) (rB [decide (Zab (u2.cellAt 1).toI ((A.nthA l u1).cellAt 1).toI ((A.nthA l u1).cellAt 2).toI=false∨Zbx rs (u2.cellAt 1).toI l1=true),Zag (Zag (A.le 0 n2) (Nat.blt u1 (A.lenA l))) true] (bB (A.not (ZhL rs n3 (u2.cellAt 1).toI l1 ((A.nthA l u1).cellAt 0).toI ((A.nthA l u1).cellAt 1).toI ((A.nthA l u1).cellAt 2).toI)) (rB [decide (List.length [26,evE ek en]≤1000000),List.all [AV.int .i64 26,AV.int .i64 (evE ek en)] fun x=>AV.bx x&&Nat.beq (Zac A x) 1] u3) (rB [Zag (Zag (A.le 0 ((A.nthA l u1).cellAt 0).toI) (Nat.blt (A.nat ((A.nthA l u1).cellAt 0).toI) (A.lenA ks))) true,Zag (Nat.blt (A.nat ((A.nthA l u1).cellAt 0).toI) u7) true,Zag (A.le 0 ((A.nthA l u1).cellAt 0).toI) (Nat.blt (A.nat ((A.nthA l u1).cellAt 0).toI) u7),Zag (Zag (A.le 0 n2) (Nat.blt u1 (A.lenA l))) true] (bB (A.not (A.eq ((A.nthA ks (A.nat ((A.nthA l u1).cellAt 0).toI)).cellAt 1).toI (-1))) (rB [A.inR .i64 u4] (K (ZbY ms ks rs l wn fl at0 mo dn ha ba to dw up ek en n0 (A.set l1 (A.nat ((A.nthA l u1).cellAt 0).toI) (u2.cellAt 1).toI) u4 ((A.nthA ks (A.nat ((A.nthA l u1).cellAt 0).toI)).cellAt 1).toI (u2.cellAt 1).toI))) (rB [A.inR .i64 u4] (K (ZbY ms ks rs l wn fl at0 mo dn ha ba to dw up ek en n0 (A.set l1 (A.nat ((A.nthA l u1).cellAt 0).toI) (u2.cellAt 1).toI) u4 n3 (u2.cellAt 1).toI)))))))) (qB [!A.le (u2.cellAt 1).toI at0,A.eq (u2.cellAt 0).toI n2] (rB [A.not false] (rB [decide (List.length [9,evE ek en]≤1000000),List.all [AV.int .i64 9,AV.int .i64 (evE ek en)] fun x=>AV.bx x&&Nat.beq (Zac A x) 1] u0)) (rB [!A.eq (u2.cellAt 0).toI n2] (rB [A.not false] (rB [decide (List.length [9,evE ek en]≤1000000),List.all [AV.int .i64 9,AV.int .i64 (evE ek en)] fun x=>AV.bx x&&Nat.beq (Zac A x) 1] u0))))))) (K (Zio ms ks rs l wn fl at0 mo dn ha ba to dw up ek en l1 n3 (A.int (A.len dw)) (A.int u6) (A.int u6) 0))
theorem ZjC{ms ks rs l:zA}{wn fl at0 mo:Int}{dn:zA}{ha:Bool}{ba:Int}{to:Bool}{dw:zI}{up:zA}{ek en n0:Int}{l1:zI}{n2 n3 n4:Int} :vT A tab Bn 40 K F M (.run 6 (.tf (.run 13 (.alt [true,true,true] (.run 7 (.fy (.run 8 (.tf (.run 29 (.fy (.run 7 (.ty (.run 8 (.fn)))))) (.run 18 (.tf (.run 18 (.hd)) (.run 11 (.hd)))))))) (.alt [true,true,false] (.run 7 (.tf (.run 29 (.fy (.run 7 (.ty (.run 8 (.fn)))))) (.run 8 (.tf (.run 29 (.fy (.run 7 (.ty (.run 8 (.fn)))))) (.run 18 (.tf (.run 18 (.hd)) (.run 11 (.hd)))))))) (.alt [true,false] (.run 7 (.ty (.run 29 (.fy (.run 7 (.ty (.run 8 (.fn)))))))) (.alt [false,false] (.run 7 (.ty (.run 29 (.fy (.run 7 (.ty (.run 8 (.fn)))))))) (.no)))))) (.run 40 (.hd)))) (ZbY ms ks rs l wn fl at0 mo dn ha ba to dw up ek en n0 l1 n2 n3 n4)=Zbe A K F ms ks rs l wn fl at0 mo dn ha ba to dw up ek en n0 l1 n2 n3 n4:=by kernel_rfl
def ZeZ(A:Ar)(K:KT)(F:FT)(ms ks rs l:zA)(wn fl at0 mo:Int)(dn:zA)(ha:Bool)(ba:Int)(to:Bool)(dw:zI)(up:zA)(ek en:Int)(l1:zI)(n3 n5 n6 n7 n8:Int):Prop:=let u0:=A.int (A.lenA up);bB (A.lt n8 n5) (rB [A.inR .i64 (A.sub (A.int (A.lenA l)) 1),Zag (Zag (A.le 0 n8) (Nat.blt (A.nat n8) (A.len dw))) true] (bB (A.not (Zab (A.nth dw (A.nat n8)) 0 (A.sub (A.int (A.lenA l)) 1))) (qB [decide (List.length [Zaa (A.eq mo n3) 3,0,Zaa (Zab ba 0 n6) 2,0,Zaa (A.not (A.le 0 n8)) 6]≤1000000),List.all [AV.int .i64 (Zaa (A.eq mo n3) 3),AV.int .i64 0,AV.int .i64 (Zaa (Zab ba 0 n6) 2),AV.int .i64 0,AV.int .i64 (Zaa (A.not (A.le 0 n8)) 6)] fun x=>AV.bx x&&Nat.beq (Zac A x) 1,A.not to,A.not ha] (K (ZaX ms ks rs l wn fl at0 mo dn ha ba to dw up ek en l1 n3 n6 (Zae [Zaa (A.eq mo n3) 3,0,Zaa (Zab ba 0 n6) 2,0,Zaa (A.not (A.le 0 n8)) 6]) u0 0)) (qB [decide (List.length [Zaa (A.eq mo n3) 3,0,Zaa (Zab ba 0 n6) 2,Zaa (A.eq ba n6) 3,Zaa (A.not (A.le 0 n8)) 6]≤1000000),List.all [AV.int .i64 (Zaa (A.eq mo n3) 3),AV.int .i64 0,AV.int .i64 (Zaa (Zab ba 0 n6) 2),AV.int .i64 (Zaa (A.eq ba n6) 3),AV.int .i64 (Zaa (A.not (A.le 0 n8)) 6)] fun x=>AV.bx x&&Nat.beq (Zac A x) 1,ha,!A.not to,A.not ha] (K (ZaX ms ks rs l wn fl at0 mo dn ha ba to dw up ek en l1 n3 n6 (Zae [Zaa (A.eq mo n3) 3,0,Zaa (Zab ba 0 n6) 2,Zaa (A.eq ba n6) 3,Zaa (A.not (A.le 0 n8)) 6]) u0 0)) (qB [decide (List.length [Zaa (A.eq mo n3) 3,0,Zaa (Zab ba 0 n6) 2,3,Zaa (A.not (A.le 0 n8)) 6]≤1000000),List.all [AV.int .i64 (Zaa (A.eq mo n3) 3),AV.int .i64 0,AV.int .i64 (Zaa (Zab ba 0 n6) 2),AV.int .i64 3,AV.int .i64 (Zaa (A.not (A.le 0 n8)) 6)] fun x=>AV.bx x&&Nat.beq (Zac A x) 1,!ha,!A.not to,A.not ha] (K (ZaX ms ks rs l wn fl at0 mo dn ha ba to dw up ek en l1 n3 n6 (Zae [Zaa (A.eq mo n3) 3,0,Zaa (Zab ba 0 n6) 2,3,Zaa (A.not (A.le 0 n8)) 6]) u0 0)) (qB [decide (List.length [Zaa (A.eq mo n3) 3,Zaa (A.lt n6 (A.int (A.lenA l))) 21,Zaa (Zab ba 0 n6) 2,0,Zaa (A.not (A.le 0 n8)) 6]≤1000000),List.all [AV.int .i64 (Zaa (A.eq mo n3) 3),AV.int .i64 (Zaa (A.lt n6 (A.int (A.lenA l))) 21),AV.int .i64 (Zaa (Zab ba 0 n6) 2),AV.int .i64 0,AV.int .i64 (Zaa (A.not (A.le 0 n8)) 6)] fun x=>AV.bx x&&Nat.beq (Zac A x) 1,A.not to,!A.not ha] (K (ZaX ms ks rs l wn fl at0 mo dn ha ba to dw up ek en l1 n3 n6 (Zae [Zaa (A.eq mo n3) 3,Zaa (A.lt n6 (A.int (A.lenA l))) 21,Zaa (Zab ba 0 n6) 2,0,Zaa (A.not (A.le 0 n8)) 6]) u0 0)) (qB [decide (List.length [Zaa (A.eq mo n3) 3,Zaa (A.lt n6 (A.int (A.lenA l))) 21,Zaa (Zab ba 0 n6) 2,Zaa (A.eq ba n6) 3,Zaa (A.not (A.le 0 n8)) 6]≤1000000),List.all [AV.int .i64 (Zaa (A.eq mo n3) 3),AV.int .i64 (Zaa (A.lt n6 (A.int (A.lenA l))) 21),AV.int .i64 (Zaa (Zab ba 0 n6) 2),AV.int .i64 (Zaa (A.eq ba n6) 3),AV.int .i64 (Zaa (A.not (A.le 0 n8)) 6)] fun x=>AV.bx x&&Nat.beq (Zac A x) 1,ha,!A.not to,!A.not ha] (K (ZaX ms ks rs l wn fl at0 mo dn ha ba to dw up ek en l1 n3 n6 (Zae [Zaa (A.eq mo n3) 3,Zaa (A.lt n6 (A.int (A.lenA l))) 21,Zaa (Zab ba 0 n6) 2,Zaa (A.eq ba n6) 3,Zaa (A.not (A.le 0 n8)) 6]) u0 0)) (rB [decide (List.length [Zaa (A.eq mo n3) 3,Zaa (A.lt n6 (A.int (A.lenA l))) 21,Zaa (Zab ba 0 n6) 2,3,Zaa (A.not (A.le 0 n8)) 6]≤1000000),List.all [AV.int .i64 (Zaa (A.eq mo n3) 3),AV.int .i64 (Zaa (A.lt n6 (A.int (A.lenA l))) 21),AV.int .i64 (Zaa (Zab ba 0 n6) 2),AV.int .i64 3,AV.int .i64 (Zaa (A.not (A.le 0 n8)) 6)] fun x=>AV.bx x&&Nat.beq (Zac A x) 1,!ha,!A.not to,!A.not ha] (K (ZaX ms ks rs l wn fl at0 mo dn ha ba to dw up ek en l1 n3 n6 (Zae [Zaa (A.eq mo n3) 3,Zaa (A.lt n6 (A.int (A.lenA l))) 21,Zaa (Zab ba 0 n6) 2,3,Zaa (A.not (A.le 0 n8)) 6]) u0 0)))))))) (rB [A.inR .i64 (A.add n8 1)] (K (Zio ms ks rs l wn fl at0 mo dn ha ba to dw up ek en l1 n3 n5 n6 n7 (A.add n8 1)))))) (qB [decide (List.length [Zaa (A.eq mo n3) 3,0,Zaa (Zab ba 0 n6) 2,0,Zaa (A.not (A.le 0 (-1))) 6]≤1000000),List.all [AV.int .i64 (Zaa (A.eq mo n3) 3),AV.int .i64 0,AV.int .i64 (Zaa (Zab ba 0 n6) 2),AV.int .i64 0,AV.int .i64 (Zaa (A.not (A.le 0 (-1))) 6)] fun x=>AV.bx x&&Nat.beq (Zac A x) 1,A.not to,A.not ha] (K (ZaX ms ks rs l wn fl at0 mo dn ha ba to dw up ek en l1 n3 n6 (Zae [Zaa (A.eq mo n3) 3,0,Zaa (Zab ba 0 n6) 2,0,Zaa (A.not (A.le 0 (-1))) 6]) u0 0)) (qB [decide (List.length [Zaa (A.eq mo n3) 3,0,Zaa (Zab ba 0 n6) 2,Zaa (A.eq ba n6) 3,Zaa (A.not (A.le 0 (-1))) 6]≤1000000),List.all [AV.int .i64 (Zaa (A.eq mo n3) 3),AV.int .i64 0,AV.int .i64 (Zaa (Zab ba 0 n6) 2),AV.int .i64 (Zaa (A.eq ba n6) 3),AV.int .i64 (Zaa (A.not (A.le 0 (-1))) 6)] fun x=>AV.bx x&&Nat.beq (Zac A x) 1,ha,!A.not to,A.not ha] (K (ZaX ms ks rs l wn fl at0 mo dn ha ba to dw up ek en l1 n3 n6 (Zae [Zaa (A.eq mo n3) 3,0,Zaa (Zab ba 0 n6) 2,Zaa (A.eq ba n6) 3,Zaa (A.not (A.le 0 (-1))) 6]) u0 0)) (qB [decide (List.length [Zaa (A.eq mo n3) 3,0,Zaa (Zab ba 0 n6) 2,3,Zaa (A.not (A.le 0 (-1))) 6]≤1000000),List.all [AV.int .i64 (Zaa (A.eq mo n3) 3),AV.int .i64 0,AV.int .i64 (Zaa (Zab ba 0 n6) 2),AV.int .i64 3,AV.int .i64 (Zaa (A.not (A.le 0 (-1))) 6)] fun x=>AV.bx x&&Nat.beq (Zac A x) 1,!ha,!A.not to,A.not ha] (K (ZaX ms ks rs l wn fl at0 mo dn ha ba to dw up ek en l1 n3 n6 (Zae [Zaa (A.eq mo n3) 3,0,Zaa (Zab ba 0 n6) 2,3,Zaa (A.not (A.le 0 (-1))) 6]) u0 0)) (qB [decide (List.length [Zaa (A.eq mo n3) 3,Zaa (A.lt n6 (A.int (A.lenA l))) 21,Zaa (Zab ba 0 n6) 2,0,Zaa (A.not (A.le 0 (-1))) 6]≤1000000),List.all [AV.int .i64 (Zaa (A.eq mo n3) 3),AV.int .i64 (Zaa (A.lt n6 (A.int (A.lenA l))) 21),AV.int .i64 (Zaa (Zab ba 0 n6) 2),AV.int .i64 0,AV.int .i64 (Zaa (A.not (A.le 0 (-1))) 6)] fun x=>AV.bx x&&Nat.beq (Zac A x) 1,A.not to,!A.not ha] (K (ZaX ms ks rs l wn fl at0 mo dn ha ba to dw up ek en l1 n3 n6 (Zae [Zaa (A.eq mo n3) 3,Zaa (A.lt n6 (A.int (A.lenA l))) 21,Zaa (Zab ba 0 n6) 2,0,Zaa (A.not (A.le 0 (-1))) 6]) u0 0)) (qB [decide (List.length [Zaa (A.eq mo n3) 3,Zaa (A.lt n6 (A.int (A.lenA l))) 21,Zaa (Zab ba 0 n6) 2,Zaa (A.eq ba n6) 3,Zaa (A.not (A.le 0 (-1))) 6]≤1000000),List.all [AV.int .i64 (Zaa (A.eq mo n3) 3),AV.int .i64 (Zaa (A.lt n6 (A.int (A.lenA l))) 21),AV.int .i64 (Zaa (Zab ba 0 n6) 2),AV.int .i64 (Zaa (A.eq ba n6) 3),AV.int .i64 (Zaa (A.not (A.le 0 (-1))) 6)] fun x=>AV.bx x&&Nat.beq (Zac A x) 1,ha,!A.not to,!A.not ha] (K (ZaX ms ks rs l wn fl at0 mo dn ha ba to dw up ek en l1 n3 n6 (Zae [Zaa (A.eq mo n3) 3,Zaa (A.lt n6 (A.int (A.lenA l))) 21,Zaa (Zab ba 0 n6) 2,Zaa (A.eq ba n6) 3,Zaa (A.not (A.le 0 (-1))) 6]) u0 0)) (rB [decide (List.length [Zaa (A.eq mo n3) 3,Zaa (A.lt n6 (A.int (A.lenA l))) 21,Zaa (Zab ba 0 n6) 2,3,Zaa (A.not (A.le 0 (-1))) 6]≤1000000),List.all [AV.int .i64 (Zaa (A.eq mo n3) 3),AV.int .i64 (Zaa (A.lt n6 (A.int (A.lenA l))) 21),AV.int .i64 (Zaa (Zab ba 0 n6) 2),AV.int .i64 3,AV.int .i64 (Zaa (A.not (A.le 0 (-1))) 6)] fun x=>AV.bx x&&Nat.beq (Zac A x) 1,!ha,!A.not to,!A.not ha] (K (ZaX ms ks rs l wn fl at0 mo dn ha ba to dw up ek en l1 n3 n6 (Zae [Zaa (A.eq mo n3) 3,Zaa (A.lt n6 (A.int (A.lenA l))) 21,Zaa (Zab ba 0 n6) 2,3,Zaa (A.not (A.le 0 (-1))) 6]) u0 0))))))))
theorem Zik{ms ks rs l:zA}{wn fl at0 mo:Int}{dn:zA}{ha:Bool}{ba:Int}{to:Bool}{dw:zI}{up:zA}{ek en:Int}{l1:zI}{n3 n5 n6 n7 n8:Int} :vT A tab Bn 40 K F M (.run 6 (.tf (.run 35 (.tf (.run 15 (.alt [true,true] (.run 12 (.hd)) (.alt [true,false,true] (.run 12 (.hd)) (.alt [true,false,false] (.run 12 (.hd)) (.alt [false,true] (.run 12 (.hd)) (.alt [false,false,true] (.run 12 (.hd)) (.alt [false,false,false] (.run 12 (.hd)) (.no)))))))) (.run 8 (.hd)))) (.run 15 (.alt [true,true] (.run 12 (.hd)) (.alt [true,false,true] (.run 12 (.hd)) (.alt [true,false,false] (.run 12 (.hd)) (.alt [false,true] (.run 12 (.hd)) (.alt [false,false,true] (.run 12 (.hd)) (.alt [false,false,false] (.run 12 (.hd)) (.no)))))))))) (Zio ms ks rs l wn fl at0 mo dn ha ba to dw up ek en l1 n3 n5 n6 n7 n8)=ZeZ A K F ms ks rs l wn fl at0 mo dn ha ba to dw up ek en l1 n3 n5 n6 n7 n8:=by kernel_rfl
def Zar(A:Ar)(K:KT)(F:FT)(ms ks rs l:zA)(wn fl at0 mo:Int)(dn:zA)(ha:Bool)(ba:Int)(to:Bool)(dw:zI)(up:zA)(ek en:Int)(l1:zI)(n3 n6 n9 n10 n11:Int):Prop:=let ug:=A.nat en;let u3:=A.nth dw ug;let u0:=A.appA dn [AV.agg (Row.gen [AV.int .i64 u3,AV.int .i64 at0])];let u1:=rB [!A.not (A.eq 0 0)] (F (AV.tup [vS at0 mo dn ha ba to (dX A dw en) up,AV.int .i64 0]) none);let u2:=rB [A.not (A.eq 6 0)] (F (AV.tup [AV.agg (Row.gen [.int .i64 0, .int .i64 0,AV.nils, .bool false, .int .i64 0, .bool false,AV.nils,AV.nils]),AV.int .i64 6]) none);let u7:=A.int (A.lenA dn);let uh:=A.appA up [AV.agg (Row.gen [AV.int .i64 u7,AV.bool ha])];let u4:=rB [!A.not (A.eq 0 0)] (F (AV.tup [vS at0 mo dn ha ba to (dX A dw en) uh,AV.int .i64 0]) none);let un:=A.len dw;let u5:=A.int un;let u6:=A.nthA up (A.nat n11);let u8:=A.sub (A.add ba wn) 1;let u9:=A.lenA up+A.lenA [AV.agg (Row.gen [.int .i64 u7, .bool ha])];let ua:=A.int (A.lenA up);let ub:=A.nat u3;let uc:=A.int (A.lenA u0);let ud:=A.lenA dn+A.lenA [AV.agg (Row.gen [.int .i64 u3, .int .i64 at0])];let ue:=A.lenA up+A.lenA [AV.agg (Row.gen [AV.int .i64 uc,AV.bool ha])];let uf:=A.appA up [AV.agg (Row.gen [AV.int .i64 uc,AV.bool ha])];let ui:=A.add n11 1;let uj:=A.max ba ((A.nthA up ug).cellAt 0).toI;let uk:=A.add at0 en;let ul:=A.add en 1;let um:=rB [A.not false] u2;bB (A.lt n11 n10) (rB [Zag (Zag (A.le 0 n11) (Nat.blt (A.nat n11) (A.lenA up))) true] (qB [decide (List.length [n9,Zaa (Zab (u6.cellAt 0).toI 0 n6) 2,0]≤1000000),List.all [AV.int .i64 n9,AV.int .i64 (Zaa (Zab (u6.cellAt 0).toI 0 n6) 2),AV.int .i64 0] fun x=>AV.bx x&&Nat.beq (Zac A x) 1,A.not (u6.cellAt 1).toB] (rB [A.inR .i64 ui] (K (ZaX ms ks rs l wn fl at0 mo dn ha ba to dw up ek en l1 n3 n6 (Zae [n9,Zaa (Zab (u6.cellAt 0).toI 0 n6) 2,0]) n10 ui))) (qB [decide (List.length [n9,Zaa (Zab (u6.cellAt 0).toI 0 n6) 2,Zaa (A.eq (u6.cellAt 0).toI n6) 3]≤1000000),List.all [AV.int .i64 n9,AV.int .i64 (Zaa (Zab (u6.cellAt 0).toI 0 n6) 2),AV.int .i64 (Zaa (A.eq (u6.cellAt 0).toI n6) 3)] fun x=>AV.bx x&&Nat.beq (Zac A x) 1,ha,!A.not (u6.cellAt 1).toB] (rB [A.inR .i64 ui] (K (ZaX ms ks rs l wn fl at0 mo dn ha ba to dw up ek en l1 n3 n6 (Zae [n9,Zaa (Zab (u6.cellAt 0).toI 0 n6) 2,Zaa (A.eq (u6.cellAt 0).toI n6) 3]) n10 ui))) (rB [decide (List.length [n9,Zaa (Zab (u6.cellAt 0).toI 0 n6) 2,3]≤1000000),List.all [AV.int .i64 n9,AV.int .i64 (Zaa (Zab (u6.cellAt 0).toI 0 n6) 2),AV.int .i64 3] fun x=>AV.bx x&&Nat.beq (Zac A x) 1,!ha,!A.not (u6.cellAt 1).toB] (rB [A.inR .i64 ui] (K (ZaX ms ks rs l wn fl at0 mo dn ha ba to dw up ek en l1 n3 n6 (Zae [n9,Zaa (Zab (u6.cellAt 0).toI 0 n6) 2,3]) n10 ui))))))) (rB [decide (List.length [n9,evE ek en]≤1000000),List.all [AV.int .i64 n9,AV.int .i64 (evE ek en)] fun x=>AV.bx x&&Nat.beq (Zac A x) 1] (bB (A.eq (Zae [n9,evE ek en]) 0) (qB [A.eq ek 0] (rB [A.inR .i64 uk] (bB (A.lt 1000000000000 uk) (rB [A.not (A.eq 2 0)] (F (AV.tup [AV.agg (Row.gen [.int .i64 0, .int .i64 0,AV.nils, .bool false, .int .i64 0, .bool false,AV.nils,AV.nils]),AV.int .i64 2]) none)) (rB [A.inR .i64 uk] (rB [!A.not (A.eq 0 0)] (F (AV.tup [vS uk mo dn ha ba to dw up,AV.int .i64 0]) none))))) (qB [A.eq ek (Int.ofNat 1)] (rB [decide (List.length [Zaa (A.lt en (A.int (A.lenA l))) 6,Zaa (A.not to) 21,Zaa (Zab en ba u8) 26,Zaa (A.lt u5 fl) 16]≤1000000),List.all [AV.int .i64 (Zaa (A.lt en (A.int (A.lenA l))) 6),AV.int .i64 (Zaa (A.not to) 21),AV.int .i64 (Zaa (Zab en ba u8) 26),AV.int .i64 (Zaa (A.lt u5 fl) 16)] fun x=>AV.bx x&&Nat.beq (Zac A x) 1,A.inR .i64 u8,A.inR .i64 (A.add ba wn)] (bB (A.eq (Zae [Zaa (A.lt en (A.int (A.lenA l))) 6,Zaa (A.not to) 21,Zaa (Zab en ba u8) 26,Zaa (A.lt u5 fl) 16]) 0) (rB [Nat.ble (A.len dw+A.len [en]) 4294967296,List.all [AV.int .i64 en] fun x=>AV.bx x&&Nat.beq (Zac A x) 1] (rB [!A.not (A.eq (Zae [Zaa (A.lt en (A.int (A.lenA l))) 6,Zaa (A.not to) 21,Zaa (Zab en ba u8) 26,Zaa (A.lt u5 fl) 16]) 0)] (F (AV.tup [vS at0 mo dn ha ba to (A.app dw [en]) up,AV.int .i64 0]) none))) (rB [A.not (A.eq (Zae [Zaa (A.lt en (A.int (A.lenA l))) 6,Zaa (A.not to) 21,Zaa (Zab en ba u8) 26,Zaa (A.lt u5 fl) 16]) 0)] (F (AV.tup [AV.agg (Row.gen [.int .i64 0, .int .i64 0,AV.nils, .bool false, .int .i64 0, .bool false,AV.nils,AV.nils]),AV.int .i64 (Zae [Zaa (A.lt en (A.int (A.lenA l))) 6,Zaa (A.not to) 21,Zaa (Zab en ba u8) 26,Zaa (A.lt u5 fl) 16])]) none)))) (qB [A.eq ek (Int.ofNat 2)] (bB (A.le u5 en) um (rB (dJ A dw en) (rB [!A.eq en ul] (rB (dK A dw en) (rB [!A.not true] (bB (A.not ha) (bB (A.eq u3 u7) (rB [decide (Zab at0 ((A.nthA l ub).cellAt 1).toI ((A.nthA l ub).cellAt 2).toI=false∨Zbx rs at0 l1=true),Zag (Zag (A.le 0 u3) (Nat.blt ub (A.lenA l))) true] (bB (ZhL rs n3 at0 l1 ((A.nthA l ub).cellAt 0).toI ((A.nthA l ub).cellAt 1).toI ((A.nthA l ub).cellAt 2).toI) (rB [Zag (Zag (A.le 0 ((A.nthA l ub).cellAt 0).toI) (Nat.blt (A.nat ((A.nthA l ub).cellAt 0).toI) (A.lenA ks))) true,Zag (Nat.blt (A.nat ((A.nthA l ub).cellAt 0).toI) (A.len l1)) true,Zag (A.le 0 ((A.nthA l ub).cellAt 0).toI) (Nat.blt (A.nat ((A.nthA l ub).cellAt 0).toI) (A.len l1))] (bB (A.not (A.eq ((A.nthA ks (A.nat ((A.nthA l ub).cellAt 0).toI)).cellAt 1).toI (-1))) (rB [Nat.ble ud 4294967296,List.all [AV.agg (Row.gen [.int .i64 u3, .int .i64 at0])] fun x=>AV.bx x&&Nat.beq (Zac A x) 2] (bB (A.lt ua fl) (rB [Nat.ble ue 4294967296,List.all [AV.agg (Row.gen [AV.int .i64 uc,AV.bool ha])] fun x=>AV.bx x&&Nat.beq (Zac A x) 2] (rB [!A.not (A.eq 0 0)] (F (AV.tup [AV.agg (Row.gen [AV.int .i64 at0,AV.int .i64 ((A.nthA ks (A.nat ((A.nthA l ub).cellAt 0).toI)).cellAt 1).toI,AV.list (Row.big (.agg [.int .i64, .int .i64]) u0),AV.bool ha,AV.int .i64 ba,AV.bool to,AV.list (.ints .i64 (dX A dw en)),AV.list (Row.big (.agg [.int .i64, .bool]) uf)]),AV.int .i64 0]) none))) (rB [!A.not (A.eq 0 0)] (F (AV.tup [AV.agg (Row.gen [AV.int .i64 at0,AV.int .i64 ((A.nthA ks (A.nat ((A.nthA l ub).cellAt 0).toI)).cellAt 1).toI,AV.list (Row.big (.agg [.int .i64, .int .i64]) u0),AV.bool ha,AV.int .i64 ba,AV.bool to,AV.list (.ints .i64 (dX A dw en)),AV.list (Row.big (.agg [.int .i64, .bool]) up)]),AV.int .i64 0]) none)))) (rB [Nat.ble ud 4294967296,List.all [AV.agg (Row.gen [.int .i64 u3, .int .i64 at0])] fun x=>AV.bx x&&Nat.beq (Zac A x) 2] (bB (A.lt ua fl) (rB [Nat.ble ue 4294967296,List.all [AV.agg (Row.gen [AV.int .i64 uc,AV.bool ha])] fun x=>AV.bx x&&Nat.beq (Zac A x) 2] (rB [!A.not (A.eq 0 0)] (F (AV.tup [vS at0 n3 u0 ha ba to (dX A dw en) uf,AV.int .i64 0]) none))) (rB [!A.not (A.eq 0 0)] (F (AV.tup [vS at0 n3 u0 ha ba to (dX A dw en) up,AV.int .i64 0]) none)))))) (bB (A.lt ua fl) (rB [Nat.ble (A.lenA up+A.lenA [AV.agg (Row.gen [.int .i64 u7, .bool true])]) 4294967296,List.all [AV.agg (Row.gen [.int .i64 u7, .bool true])] fun x=>AV.bx x&&Nat.beq (Zac A x) 2] (rB [!A.not (A.eq 0 0)] (F (AV.tup [vS at0 mo dn true ba to (dX A dw en) (A.appA up [AV.agg (Row.gen [AV.int .i64 u7,AV.bool true])]),AV.int .i64 0]) none))) (rB [!A.not (A.eq 0 0)] (F (AV.tup [vS at0 mo dn true ba to (dX A dw en) up,AV.int .i64 0]) none))))) (bB (A.lt ua fl) (rB [Nat.ble u9 4294967296,List.all [AV.agg (Row.gen [.int .i64 u7, .bool ha])] fun x=>AV.bx x&&Nat.beq (Zac A x) 2] u4) u1)) (bB (A.lt ua fl) (rB [Nat.ble u9 4294967296,List.all [AV.agg (Row.gen [.int .i64 u7, .bool ha])] fun x=>AV.bx x&&Nat.beq (Zac A x) 2] u4) u1))))))) (qB [A.eq ek (Int.ofNat 3)] (bB (A.le ua en) um (rB (eJ A up en) (rB [!A.eq en ul] (rB (eK A up en) (rB [!A.not true] (bB to (rB [!A.not (A.eq 0 0)] (F (AV.tup [vS at0 mo dn ha uj true dw (eX A up en),AV.int .i64 0]) none)) (rB [!A.not (A.eq 0 0)] (F (AV.tup [AV.agg (Row.gen [.int .i64 at0, .int .i64 mo, .list (Row.big (.agg [.int .i64, .int .i64]) dn), .bool ha, .int .i64 uj, .bool ((A.nthA up ug).cellAt 1).toB, .list (.ints .i64 dw), .list (Row.big (.agg [.int .i64, .bool]) (eX A up en))]),AV.int .i64 0]) none)))))))) (qB [A.eq ek (Int.ofNat 4)] (bB (A.le u5 en) u2 (rB (dJ A dw en) (rB [!A.eq en ul] (rB (dK A dw en) u1)))) (qB [A.eq ek (Int.ofNat 5)] (bB (A.le ua en) u2 (rB (eJ A up en) (rB [!A.eq en ul] (rB (eK A up en) (rB [!A.not (A.eq 0 0)] (F (AV.tup [vS at0 mo dn ha ba to dw (eX A up en),AV.int .i64 0]) none)))))) (qB [A.eq ek (Int.ofNat 6)] (rB [decide (List.length [Zaa (A.lt en u5) 6,Zaa (A.lt u5 fl) 16]≤1000000),List.all [AV.int .i64 (Zaa (A.lt en u5) 6),AV.int .i64 (Zaa (A.lt u5 fl) 16)] fun x=>AV.bx x&&Nat.beq (Zac A x) 1] (bB (A.eq (Zae [Zaa (A.lt en u5) 6,Zaa (A.lt u5 fl) 16]) 0) (rB [Nat.ble (A.len dw+A.len [A.nth dw ug]) 4294967296,List.all [AV.int .i64 u3] fun x=>AV.bx x&&Nat.beq (Zac A x) 1,Zag (Nat.blt ug un) true,Zag (A.le 0 en) (Nat.blt ug un)] (rB [!A.not (A.eq (Zae [Zaa (A.lt en u5) 6,Zaa (A.lt u5 fl) 16]) 0)] (F (AV.tup [vS at0 mo dn ha ba to (A.app dw [A.nth dw ug]) up,AV.int .i64 0]) none))) (rB [A.not (A.eq (Zae [Zaa (A.lt en u5) 6,Zaa (A.lt u5 fl) 16]) 0)] (F (AV.tup [AV.agg (Row.gen [.int .i64 0, .int .i64 0,AV.nils, .bool false, .int .i64 0, .bool false,AV.nils,AV.nils]),AV.int .i64 (Zae [Zaa (A.lt en u5) 6,Zaa (A.lt u5 fl) 16])]) none)))) (qB [A.eq ek (Int.ofNat 7)] (rB [!A.not (A.eq 0 0)] (F (AV.tup [vS at0 mo dn ha 0 false dw up,AV.int .i64 0]) none)) (rB [A.eq ek (Int.ofNat 8)] (bB (A.lt ua fl) (rB [Nat.ble u9 4294967296,List.all [AV.agg (Row.gen [.int .i64 u7, .bool ha])] fun x=>AV.bx x&&Nat.beq (Zac A x) 2] (rB [!A.not (A.eq 0 0)] (F (AV.tup [vS at0 mo dn ha ba to dw uh,AV.int .i64 0]) none))) (rB [!A.not (A.eq 0 0)] (F (AV.tup [vS at0 mo dn ha ba to dw up,AV.int .i64 0]) none)))))))))))) (rB [A.not (A.eq (Zae [n9,evE ek en]) 0)] (F (AV.tup [AV.agg (Row.gen [.int .i64 0, .int .i64 0,AV.nils, .bool false, .int .i64 0, .bool false,AV.nils,AV.nils]),AV.int .i64 (Zae [n9,evE ek en])]) none))))
theorem Za5{ms ks rs l:zA}{wn fl at0 mo:Int}{dn:zA}{ha:Bool}{ba:Int}{to:Bool}{dw:zI}{up:zA}{ek en:Int}{l1:zI}{n3 n6 n9 n10 n11:Int} :vT A tab Bn 40 K F M (.run 6 (.tf (.run 10 (.alt [true] (.run 7 (.hd)) (.alt [false,true] (.run 7 (.hd)) (.alt [false,false] (.run 7 (.hd)) (.no))))) (.run 32 (.tf (.run 10 (.alt [true] (.run 18 (.tf (.run 19 (.ty (.run 8 (.fn)))) (.run 38 (.fy (.run 11 (.fn)))))) (.alt [false,true] (.run 14 (.tf (.run 35 (.fy (.run 11 (.fn)))) (.run 21 (.ty (.run 8 (.fn)))))) (.alt [false,false,true] (.run 32 (.tf (.run 21 (.ty (.run 19 (.ty (.run 8 (.fn)))))) (.run 43 (.fy (.run 51 (.fy (.run 11 (.tf (.ty (.ty (.ty (.ty (.ty (.ty (.ty (.ty (.run 2 (.tf (.run 16 (.tf (.run 18 (.tf (.run 37 (.tf (.run 23 (.fy (.run 11 (.fn)))) (.run 23 (.fy (.run 11 (.fn)))))) (.run 30 (.tf (.run 23 (.fy (.run 11 (.fn)))) (.run 23 (.fy (.run 11 (.fn)))))))) (.run 14 (.tf (.run 23 (.fy (.run 11 (.fn)))) (.run 23 (.fy (.run 11 (.fn)))))))) (.run 8 (.tf (.run 23 (.fy (.run 11 (.fn)))) (.run 23 (.fy (.run 11 (.fn)))))))))))))))) (.fy (.fy (.fy (.fy (.fy (.fy (.fy (.fy (.run 2 (.fy (.run 8 (.tf (.run 23 (.fy (.run 11 (.fn)))) (.run 23 (.fy (.run 11 (.fn)))))))))))))))))))))))) (.alt [false,false,false,true] (.run 32 (.tf (.run 22 (.ty (.run 19 (.ty (.run 8 (.fn)))))) (.run 43 (.fy (.run 52 (.fy (.run 13 (.tf (.ty (.ty (.run 25 (.fy (.run 11 (.fn)))))) (.fy (.fy (.run 25 (.fy (.run 11 (.fn)))))))))))))) (.alt [false,false,false,false,true] (.run 32 (.tf (.run 36 (.ty (.run 8 (.fn)))) (.run 43 (.fy (.run 66 (.fy (.run 11 (.fn)))))))) (.alt [false,false,false,false,false,true] (.run 32 (.tf (.run 37 (.ty (.run 8 (.fn)))) (.run 43 (.fy (.run 67 (.fy (.run 11 (.fn)))))))) (.alt [false,false,false,false,false,false,true] (.run 14 (.tf (.run 48 (.fy (.run 11 (.fn)))) (.run 21 (.ty (.run 8 (.fn)))))) (.alt [false,false,false,false,false,false,false,true] (.run 38 (.fy (.run 11 (.fn)))) (.alt [false,false,false,false,false,false,false,false,true] (.run 12 (.tf (.run 23 (.fy (.run 11 (.fn)))) (.run 23 (.fy (.run 11 (.fn)))))) (.no))))))))))) (.run 7 (.ty (.run 8 (.fn)))))))) (ZaX ms ks rs l wn fl at0 mo dn ha ba to dw up ek en l1 n3 n6 n9 n10 n11)=Zar A K F ms ks rs l wn fl at0 mo dn ha ba to dw up ek en l1 n3 n6 n9 n10 n11:=by kernel_rfl
end Go.Proofs.YtkeoeooghhjibaaGreatDoor
namespace Go.Proofs.YtkeoeooghhjibaaGreatDoor
variable {A:Ar}{K:KT}{F:FT}{M:MT}
section
variable {C:Ctx}(hC:C.P=Tryz.prog)(ms ks rs l:zA)(wn fl:Int)(at0 mo:Int)(dn:zA)(ha:Bool)(ba:Int)(to:Bool)(dw:zI)(up:zA)(en:Int)
include hC
theorem ZJB(h:OkA ms ks rs l wn fl ⟨at0,mo,dn,ha,ba,to,dw,up⟩ 0 en):vE C (ZaX ms ks rs l wn fl at0 mo dn ha ba to dw up 0 en (m0L ks l dn dn.length) (m0A ks l dn.length) dn.length 0 up.length up.length) (Zhe 40 (Zhd (ZcM ks rs l wn fl ⟨at0,mo,dn,ha,ba,to,dw,up⟩ 0 en) (ZaT l wn fl ⟨at0,mo,dn,ha,ba,to,dw,up⟩ 0 en)) none):=
 ZeE hC Za4 Za5 (by
  obtain⟨g0,g1,g2,g3,g4,g5,g6,g7⟩:=Zdi h
  have he:=h.e
  have h0:¬(up.length:Int)<up.length:=by omega
  have hv:=ev0 h.e
  by_cases h1:1000000000000<at0+en
  ·have hr:=ZaU (ks:=ks) (rs:=rs) (l:=l) (wn:=wn) (fl:=fl) (s:=⟨at0,mo,dn,ha,ba,to,dw,up⟩) (k:=0) (n:=en) (e:=2) (by simp[ZaT];omega) (by decide)
   simp[-List.getD_eq_getElem?_getD,Zar,AV.bx,Zac,h0,he,Zae,Zaa,h1]
   repeat refine⟨by omega,?_⟩
   exact hr
  ·have hr:=ZaG (ks:=ks) (rs:=rs) (l:=l) (wn:=wn) (fl:=fl) (s:=⟨at0,mo,dn,ha,ba,to,dw,up⟩) (k:=0) (n:=en) (by simp[ZaT];omega) (rfl)
   simp[-List.getD_eq_getElem?_getD,Zar,AV.bx,Zac,h0,he,Zae,Zaa,h1]
   repeat refine⟨by omega,?_⟩
   exact hr)
theorem ZJJ(h:OkA ms ks rs l wn fl ⟨at0,mo,dn,ha,ba,to,dw,up⟩ 1 en):vE C (ZaX ms ks rs l wn fl at0 mo dn ha ba to dw up 1 en (m0L ks l dn dn.length) (m0A ks l dn.length) dn.length 0 up.length up.length) (Zhe 40 (Zhd (ZcM ks rs l wn fl ⟨at0,mo,dn,ha,ba,to,dw,up⟩ 1 en) (ZaT l wn fl ⟨at0,mo,dn,ha,ba,to,dw,up⟩ 1 en)) none):=
 ZeE hC Za4 Za5 (by
  obtain⟨g0,g1,g2,g3,g4,g5,g6,g7⟩:=Zdi h
  have he:=h.e
  have h0:¬(up.length:Int)<up.length:=by omega
  have hv:=ev1 h.e
  by_cases h1:en<l.length
  ·cases to
   ·by_cases h2:Zab en ba (ba+wn-1)=true
    ·by_cases h3:(dw.length:Int)<fl
     ·have hr:=ZaG (ks:=ks) (rs:=rs) (l:=l) (wn:=wn) (fl:=fl) (s:=⟨at0,mo,dn,ha,ba,false,dw,up⟩) (k:=1) (n:=en) (by simp[ZaT,h1,h2,h3]) (rfl)
      simp[-List.getD_eq_getElem?_getD,Zar,AV.bx,Zac,h0,he,Zae,Zaa,h1,h2,h3]
      repeat refine⟨by omega,?_⟩
      exact hr
     ·have hr:=ZaU (ks:=ks) (rs:=rs) (l:=l) (wn:=wn) (fl:=fl) (s:=⟨at0,mo,dn,ha,ba,false,dw,up⟩) (k:=1) (n:=en) (e:=16) (by simp[ZaT,h1,h2,h3]) (by decide)
      simp[-List.getD_eq_getElem?_getD,Zar,AV.bx,Zac,h0,he,Zae,Zaa,h1,h2,h3]
      repeat refine⟨by omega,?_⟩
      exact hr
    ·have hr:=ZaU (ks:=ks) (rs:=rs) (l:=l) (wn:=wn) (fl:=fl) (s:=⟨at0,mo,dn,ha,ba,false,dw,up⟩) (k:=1) (n:=en) (e:=26) (by simp[ZaT,h1,h2]) (by decide)
     simp[-List.getD_eq_getElem?_getD,Zar,AV.bx,Zac,h0,he,Zae,Zaa,h1,h2]
     repeat refine⟨by omega,?_⟩
     exact hr
   ·have hr:=ZaU (ks:=ks) (rs:=rs) (l:=l) (wn:=wn) (fl:=fl) (s:=⟨at0,mo,dn,ha,ba,true,dw,up⟩) (k:=1) (n:=en) (e:=21) (by simp[ZaT,h1]) (by decide)
    simp[-List.getD_eq_getElem?_getD,Zar,AV.bx,Zac,h0,he,Zae,Zaa,h1]
    repeat refine⟨by omega,?_⟩
    exact hr
  ·have hr:=ZaU (ks:=ks) (rs:=rs) (l:=l) (wn:=wn) (fl:=fl) (s:=⟨at0,mo,dn,ha,ba,to,dw,up⟩) (k:=1) (n:=en) (e:=6) (by simp[ZaT,h1]) (by decide)
   simp[-List.getD_eq_getElem?_getD,Zar,AV.bx,Zac,h0,he,Zae,Zaa,h1]
   repeat refine⟨by omega,?_⟩
   exact hr)
theorem ZJv(h:OkA ms ks rs l wn fl ⟨at0,mo,dn,ha,ba,to,dw,up⟩ 4 en):vE C (ZaX ms ks rs l wn fl at0 mo dn ha ba to dw up 4 en (m0L ks l dn dn.length) (m0A ks l dn.length) dn.length 0 up.length up.length) (Zhe 40 (Zhd (ZcM ks rs l wn fl ⟨at0,mo,dn,ha,ba,to,dw,up⟩ 4 en) (ZaT l wn fl ⟨at0,mo,dn,ha,ba,to,dw,up⟩ 4 en)) none):=
 ZeE hC Za4 Za5 (by
  obtain⟨g0,g1,g2,g3,g4,g5,g6,g7⟩:=Zdi h
  have he:=h.e
  have h0:¬(up.length:Int)<up.length:=by omega
  have hv:=ZrG (by omega) h.e
  by_cases h1:(dw.length:Int)≤en
  ·have hr:=ZaU (ks:=ks) (rs:=rs) (l:=l) (wn:=wn) (fl:=fl) (s:=⟨at0,mo,dn,ha,ba,to,dw,up⟩) (k:=4) (n:=en) (e:=6) (by simp[ZaT];omega) (by decide)
   simp[-List.getD_eq_getElem?_getD,Zar,AV.bx,Zac,h0,he,Zae,Zaa,h1]
   repeat refine⟨by omega,?_⟩
   exact hr
  ·have hr:=ZaG (ks:=ks) (rs:=rs) (l:=l) (wn:=wn) (fl:=fl) (s:=⟨at0,mo,dn,ha,ba,to,dw,up⟩) (k:=4) (n:=en) (by simp[ZaT];omega) (rfl)
   obtain⟨c1,c2⟩:=Zo6 dw en hv.1 (by omega)
   have j0:0≤en:=hv.1
   have j5:en<(dw.length:Int):=by omega
   have j1:=Zpb j0 j5 (by omega)
   have j2:=ZoN j0 j5 (by omega)
   have j3:=ZtG j0 j5
   have j4:¬en=en+1:=by omega
   simp[-List.getD_eq_getElem?_getD,Zar,AV.bx,Zac,h0,he,Zae,Zaa,h1,j1,j2,j3,j4]
   repeat refine⟨by omega,?_⟩
   exact hr)
theorem ZI3(h:OkA ms ks rs l wn fl ⟨at0,mo,dn,ha,ba,to,dw,up⟩ 5 en):vE C (ZaX ms ks rs l wn fl at0 mo dn ha ba to dw up 5 en (m0L ks l dn dn.length) (m0A ks l dn.length) dn.length 0 up.length up.length) (Zhe 40 (Zhd (ZcM ks rs l wn fl ⟨at0,mo,dn,ha,ba,to,dw,up⟩ 5 en) (ZaT l wn fl ⟨at0,mo,dn,ha,ba,to,dw,up⟩ 5 en)) none):=
 ZeE hC Za4 Za5 (by
  obtain⟨g0,g1,g2,g3,g4,g5,g6,g7⟩:=Zdi h
  have he:=h.e
  have h0:¬(up.length:Int)<up.length:=by omega
  have hv:=ZrG (by omega) h.e
  by_cases h1:(up.length:Int)≤en
  ·have hr:=ZaU (ks:=ks) (rs:=rs) (l:=l) (wn:=wn) (fl:=fl) (s:=⟨at0,mo,dn,ha,ba,to,dw,up⟩) (k:=5) (n:=en) (e:=6) (by simp[ZaT];omega) (by decide)
   simp[-List.getD_eq_getElem?_getD,Zar,AV.bx,Zac,h0,he,Zae,Zaa,h1]
   repeat refine⟨by omega,?_⟩
   exact hr
  ·have hr:=ZaG (ks:=ks) (rs:=rs) (l:=l) (wn:=wn) (fl:=fl) (s:=⟨at0,mo,dn,ha,ba,to,dw,up⟩) (k:=5) (n:=en) (by simp[ZaT];omega) (rfl)
   obtain⟨c1,c2⟩:=Zo6 up en hv.1 (by omega)
   have j0:0≤en:=hv.1
   have j5:en<(up.length:Int):=by omega
   have j1:=Zo5 j0 j5 (by omega)
   have j2:=Zoh j0 j5 (by omega)
   have j3:=Zur j0 j5
   have j4:¬en=en+1:=by omega
   simp[-List.getD_eq_getElem?_getD,Zar,AV.bx,Zac,h0,he,Zae,Zaa,h1,j1,j2,j3,j4]
   repeat refine⟨by omega,?_⟩
   exact hr)
theorem ZKt(h:OkA ms ks rs l wn fl ⟨at0,mo,dn,ha,ba,to,dw,up⟩ 3 en):vE C (ZaX ms ks rs l wn fl at0 mo dn ha ba to dw up 3 en (m0L ks l dn dn.length) (m0A ks l dn.length) dn.length 0 up.length up.length) (Zhe 40 (Zhd (ZcM ks rs l wn fl ⟨at0,mo,dn,ha,ba,to,dw,up⟩ 3 en) (ZaT l wn fl ⟨at0,mo,dn,ha,ba,to,dw,up⟩ 3 en)) none):=
 ZeE hC Za4 Za5 (by
  obtain⟨g0,g1,g2,g3,g4,g5,g6,g7⟩:=Zdi h
  have he:=h.e
  have h0:¬(up.length:Int)<up.length:=by omega
  have hv:=ZrG (by omega) h.e
  by_cases h1:(up.length:Int)≤en
  ·have hr:=ZaU (ks:=ks) (rs:=rs) (l:=l) (wn:=wn) (fl:=fl) (s:=⟨at0,mo,dn,ha,ba,to,dw,up⟩) (k:=3) (n:=en) (e:=6) (by simp[ZaT];omega) (by decide)
   simp[-List.getD_eq_getElem?_getD,Zar,AV.bx,Zac,h0,he,Zae,Zaa,h1]
   repeat refine⟨by omega,?_⟩
   exact hr
  ·have hr:=ZaG (ks:=ks) (rs:=rs) (l:=l) (wn:=wn) (fl:=fl) (s:=⟨at0,mo,dn,ha,ba,to,dw,up⟩) (k:=3) (n:=en) (by simp[ZaT];omega) (rfl)
   have e1:appS ks rs l fl ⟨at0,mo,dn,ha,ba,to,dw,up⟩ 3 en=⟨at0,mo,dn,ha,max ba (Zaj up en 0),to||((up.getD en.toNat .top).cellAt 1).toB,dw,ZbO up en⟩:=rfl
   rw[e1]at hr
   have e2:((up.getD en.toNat .top).cellAt 0).toI=Zaj up en 0:=rfl
   obtain⟨c1,c2⟩:=Zo6 up en hv.1 (by omega)
   have j0:0≤en:=hv.1
   have j5:en<(up.length:Int):=by omega
   have j1:=Zo5 j0 j5 (by omega)
   have j2:=Zoh j0 j5 (by omega)
   have j3:=Zur j0 j5
   have j4:¬en=en+1:=by omega
   cases to
   ·simp[-List.getD_eq_getElem?_getD,Zar,AV.bx,Zac,h0,he,Zae,Zaa,h1,c1,c2,j1,j2,j3,j4,e2]
    repeat refine⟨by omega,?_⟩
    exact hr
   ·simp[-List.getD_eq_getElem?_getD,Zar,AV.bx,Zac,h0,he,Zae,Zaa,h1,c1,c2,j1,j2,j3,j4,e2]
    repeat refine⟨by omega,?_⟩
    exact hr)
theorem ZJf(h:OkA ms ks rs l wn fl ⟨at0,mo,dn,ha,ba,to,dw,up⟩ 6 en):vE C (ZaX ms ks rs l wn fl at0 mo dn ha ba to dw up 6 en (m0L ks l dn dn.length) (m0A ks l dn.length) dn.length 0 up.length up.length) (Zhe 40 (Zhd (ZcM ks rs l wn fl ⟨at0,mo,dn,ha,ba,to,dw,up⟩ 6 en) (ZaT l wn fl ⟨at0,mo,dn,ha,ba,to,dw,up⟩ 6 en)) none):=
 ZeE hC Za4 Za5 (by
  obtain⟨g0,g1,g2,g3,g4,g5,g6,g7⟩:=Zdi h
  have he:=h.e
  have h0:¬(up.length:Int)<up.length:=by omega
  have hv:=ZrG (by omega) h.e
  by_cases h1:en<dw.length
  ·obtain⟨c1,c2⟩:=Zo6 dw en hv.1 h1
   by_cases h3:(dw.length:Int)<fl
   ·have hr:=ZaG (ks:=ks) (rs:=rs) (l:=l) (wn:=wn) (fl:=fl) (s:=⟨at0,mo,dn,ha,ba,to,dw,up⟩) (k:=6) (n:=en) (by simp[ZaT,h1,h3]) (rfl)
    simp[-List.getD_eq_getElem?_getD,Zar,AV.bx,Zac,h0,he,Zae,Zaa,h1,h3,c2]
    repeat refine⟨by omega,?_⟩
    exact hr
   ·have hr:=ZaU (ks:=ks) (rs:=rs) (l:=l) (wn:=wn) (fl:=fl) (s:=⟨at0,mo,dn,ha,ba,to,dw,up⟩) (k:=6) (n:=en) (e:=16) (by simp[ZaT,h1,h3]) (by decide)
    simp[-List.getD_eq_getElem?_getD,Zar,AV.bx,Zac,h0,he,Zae,Zaa,h1,h3]
    repeat refine⟨by omega,?_⟩
    exact hr
  ·have hr:=ZaU (ks:=ks) (rs:=rs) (l:=l) (wn:=wn) (fl:=fl) (s:=⟨at0,mo,dn,ha,ba,to,dw,up⟩) (k:=6) (n:=en) (e:=6) (by simp[ZaT,h1]) (by decide)
   simp[-List.getD_eq_getElem?_getD,Zar,AV.bx,Zac,h0,he,Zae,Zaa,h1]
   repeat refine⟨by omega,?_⟩
   exact hr)
theorem ZIP(h:OkA ms ks rs l wn fl ⟨at0,mo,dn,ha,ba,to,dw,up⟩ 7 en):vE C (ZaX ms ks rs l wn fl at0 mo dn ha ba to dw up 7 en (m0L ks l dn dn.length) (m0A ks l dn.length) dn.length 0 up.length up.length) (Zhe 40 (Zhd (ZcM ks rs l wn fl ⟨at0,mo,dn,ha,ba,to,dw,up⟩ 7 en) (ZaT l wn fl ⟨at0,mo,dn,ha,ba,to,dw,up⟩ 7 en)) none):=
 ZeE hC Za4 Za5 (by
  obtain⟨g0,g1,g2,g3,g4,g5,g6,g7⟩:=Zdi h
  have he:=h.e
  have h0:¬(up.length:Int)<up.length:=by omega
  have hr:=ZaG (ks:=ks) (rs:=rs) (l:=l) (wn:=wn) (fl:=fl) (s:=⟨at0,mo,dn,ha,ba,to,dw,up⟩) (k:=7) (n:=en) (by simp[ZaT]) (rfl)
  simp[-List.getD_eq_getElem?_getD,Zar,AV.bx,Zac,h0,he,Zae,Zaa]
  repeat refine⟨by omega,?_⟩
  exact hr)
theorem ZJN(h:OkA ms ks rs l wn fl ⟨at0,mo,dn,ha,ba,to,dw,up⟩ 8 en):vE C (ZaX ms ks rs l wn fl at0 mo dn ha ba to dw up 8 en (m0L ks l dn dn.length) (m0A ks l dn.length) dn.length 0 up.length up.length) (Zhe 40 (Zhd (ZcM ks rs l wn fl ⟨at0,mo,dn,ha,ba,to,dw,up⟩ 8 en) (ZaT l wn fl ⟨at0,mo,dn,ha,ba,to,dw,up⟩ 8 en)) none):=
 ZeE hC Za4 Za5 (by
  obtain⟨g0,g1,g2,g3,g4,g5,g6,g7⟩:=Zdi h
  have he:=h.e
  have h0:¬(up.length:Int)<up.length:=by omega
  have hr:=ZaG (ks:=ks) (rs:=rs) (l:=l) (wn:=wn) (fl:=fl) (s:=⟨at0,mo,dn,ha,ba,to,dw,up⟩) (k:=8) (n:=en) (by simp[ZaT]) (s':=_) rfl
  have e1:appS ks rs l fl ⟨at0,mo,dn,ha,ba,to,dw,up⟩ 8 en=Zd8 fl ⟨at0,mo,dn,ha,ba,to,dw,up⟩:=rfl
  rw[e1]at hr
  unfold Zd8 ZBE at hr
  by_cases h1:(up.length:Int)<fl
  ·simp only[if_pos h1]at hr
   simp[-List.getD_eq_getElem?_getD,Zar,AV.bx,Zac,h0,he,Zae,Zaa,h1,Zfm]
   repeat refine⟨by omega,?_⟩
   exact hr
  ·simp only[if_neg h1]at hr
   simp[-List.getD_eq_getElem?_getD,Zar,AV.bx,Zac,h0,he,Zae,Zaa,h1]
   repeat refine⟨by omega,?_⟩
   exact hr)
theorem ZKA(h:OkA ms ks rs l wn fl ⟨at0,mo,dn,ha,ba,to,dw,up⟩ 2 en):vE C (ZaX ms ks rs l wn fl at0 mo dn ha ba to dw up 2 en (m0L ks l dn dn.length) (m0A ks l dn.length) dn.length 0 up.length up.length) (Zhe 40 (Zhd (ZcM ks rs l wn fl ⟨at0,mo,dn,ha,ba,to,dw,up⟩ 2 en) (ZaT l wn fl ⟨at0,mo,dn,ha,ba,to,dw,up⟩ 2 en)) none):=
 ZeE hC Za4 Za5 (by
  obtain⟨g0,g1,g2,g3,g4,g5,g6,g7⟩:=Zdi h
  have he:=h.e
  have h0:¬(up.length:Int)<up.length:=by omega
  obtain⟨hf,_,_⟩:=Zcr h.u
  have hvs:=vs_iff.1 h.s
  have hv:=ZrG (by omega) h.e
  by_cases h1:(dw.length:Int)≤en
  ·have hr:=ZaU (ks:=ks) (rs:=rs) (l:=l) (wn:=wn) (fl:=fl) (s:=⟨at0,mo,dn,ha,ba,to,dw,up⟩) (k:=2) (n:=en) (e:=6) (by simp[ZaT];omega) (by decide)
   simp[-List.getD_eq_getElem?_getD,Zar,AV.bx,Zac,h0,he,Zae,Zaa,h1]
   repeat refine⟨by omega,?_⟩
   exact hr
  ·obtain⟨c1,c2⟩:=Zo6 dw en hv.1 (by omega)
   have j0:0≤en:=hv.1
   have j5:en<(dw.length:Int):=by omega
   have j1:=Zpb j0 j5 (by omega)
   have j2:=ZoN j0 j5 (by omega)
   have j3:=ZtG j0 j5
   have j4:¬en=en+1:=by omega
   have hmem:=hvs.down _ (ZdB (d:=0) c2)
   generalize hact:dw.getD en.toNat 0=act at*
   cases ha
   ·have rA:ZaT l wn fl ⟨at0,mo,dn,false,ba,to,dw,up⟩ 2 en=0:=by simp[ZaT];omega
    have rS:appS ks rs l fl ⟨at0,mo,dn,false,ba,to,dw,up⟩ 2 en=Zd8 fl (Zjc ks rs l ⟨at0,mo,dn,false,ba,to,ZbO dw en,up⟩ act):=by rw[←hact];rfl
    by_cases h4:act=(dn.length:Int)
    ·have hdl:dn.length<l.length:=by omega
     have h4':(act=(dn.length:Int))=True:=eq_true h4
     have m1:act.toNat=dn.length:=by omega
     have e2:∀i,((l.getD dn.length .top).cellAt i).toI=Zaj l dn.length i:=fun i=>rfl
     have e5:((ks.getD (Zaj l dn.length 0).toNat .top).cellAt 1).toI=Zaj ks (Zaj l dn.length 0) 1:=rfl
     have hk8:=hf.ks1
     have hlm:=ZiM ks l dn dn.length
     obtain⟨⟨a1,a2⟩,_⟩:=hf.act dn.length hdl
     have hT:=ZoO hf hvs dn.length (Nat.le_refl _)
     have hnx:ZkK ks rs l ⟨at0,mo,dn,false,ba,to,ZbO dw en,up⟩=ZhL rs (m0A ks l dn.length) at0 (m0L ks l dn dn.length) (Zaj l dn.length 0) (Zaj l dn.length 1) (Zaj l dn.length 2):=rfl
     have hg:Zab at0 (Zaj l dn.length 1) (Zaj l dn.length 2)=false∨Zbx rs at0 (m0L ks l dn dn.length)=true:=by
      cases hw:Zab at0 (Zaj l dn.length 1) (Zaj l dn.length 2)
      ·exact .inl rfl
      ·exact .inr (hT.forb (ms:=ms) (l:=l) hf (Zr3 hvs) hvs.t.2)
     by_cases hn:ZhL rs (m0A ks l dn.length) at0 (m0L ks l dn dn.length) (Zaj l dn.length 0) (Zaj l dn.length 1) (Zaj l dn.length 2)=true
     ·have hnx2:=hnx.trans hn
      have hxl:(dn++[dnV act at0]).length=dn.length+1:=by simp
      have e9:upV (((dn++[dnV act at0]).length:Nat):Int) false=.agg (.gen [.int .i64 (dn.length+1), .bool false]):=by simp[upV]
      have hm:m0A ks l (dn.length+1)=exM ks (m0A ks l dn.length) (Zaj l dn.length 0):=ZfT ..
      unfold exM at hm
      by_cases h6:Zaj ks (Zaj l dn.length 0) 1= -1
      ·rw[if_pos h6]at hm
       by_cases h5:(up.length:Int)<fl
       ·have hr:=ZaG rA ((rS.trans ((Zgt ⟨rfl,h4⟩ hnx2).trans (congrArg (fun x=>Zd8 fl ⟨at0,x,dn++[dnV act at0],false,ba,to,ZbO dw en,up⟩) hm))).trans (Zc0 h5))
        simp[-List.getD_eq_getElem?_getD,Zar,AV.bx,Zac,h0,he,Zae,Zaa,h1,c1,c2,hact,j1,j2,j3,j4,h4',m1,e2,e5,hg,hn,h6,a1,a2,hlm,ZbU,h5,Zfm]
        rw[←e9]
        repeat refine⟨by omega,?_⟩
        exact hr
       ·have hr:=ZaG rA ((rS.trans ((Zgt ⟨rfl,h4⟩ hnx2).trans (congrArg (fun x=>Zd8 fl ⟨at0,x,dn++[dnV act at0],false,ba,to,ZbO dw en,up⟩) hm))).trans (ZeT h5))
        simp[-List.getD_eq_getElem?_getD,Zar,AV.bx,Zac,h0,he,Zae,Zaa,h1,c1,c2,hact,j1,j2,j3,j4,h4',m1,e2,e5,hg,hn,h6,a1,a2,hlm,ZbU,h5]
        repeat refine⟨by omega,?_⟩
        exact hr
      ·rw[if_neg h6]at hm
       by_cases h5:(up.length:Int)<fl
       ·have hr:=ZaG rA ((rS.trans ((Zgt ⟨rfl,h4⟩ hnx2).trans (congrArg (fun x=>Zd8 fl ⟨at0,x,dn++[dnV act at0],false,ba,to,ZbO dw en,up⟩) hm))).trans (Zc0 h5))
        simp[-List.getD_eq_getElem?_getD,Zar,AV.bx,Zac,h0,he,Zae,Zaa,h1,c1,c2,hact,j1,j2,j3,j4,h4',m1,e2,e5,hg,hn,h6,a1,a2,hlm,ZbU,h5,Zfm]
        rw[←e9]
        repeat refine⟨by omega,?_⟩
        exact hr
       ·have hr:=ZaG rA ((rS.trans ((Zgt ⟨rfl,h4⟩ hnx2).trans (congrArg (fun x=>Zd8 fl ⟨at0,x,dn++[dnV act at0],false,ba,to,ZbO dw en,up⟩) hm))).trans (ZeT h5))
        simp[-List.getD_eq_getElem?_getD,Zar,AV.bx,Zac,h0,he,Zae,Zaa,h1,c1,c2,hact,j1,j2,j3,j4,h4',m1,e2,e5,hg,hn,h6,a1,a2,hlm,ZbU,h5]
        repeat refine⟨by omega,?_⟩
        exact hr
     ·have hnx2:¬ZkK ks rs l ⟨at0,mo,dn,false,ba,to,ZbO dw en,up⟩=true:=hn
      by_cases h5:(up.length:Int)<fl
      ·have hr:=ZaG rA ((rS.trans (ZgO ⟨rfl,h4⟩ hnx2)).trans (Zc0 h5))
       simp[-List.getD_eq_getElem?_getD,Zar,AV.bx,Zac,h0,he,Zae,Zaa,h1,c1,c2,hact,j1,j2,j3,j4,h4',m1,e2,hg,hn,h5,Zfm]
       repeat refine⟨by omega,?_⟩
       exact hr
      ·have hr:=ZaG rA ((rS.trans (ZgO ⟨rfl,h4⟩ hnx2)).trans (ZeT h5))
       simp[-List.getD_eq_getElem?_getD,Zar,AV.bx,Zac,h0,he,Zae,Zaa,h1,c1,c2,hact,j1,j2,j3,j4,h4',m1,e2,hg,hn,h5]
       repeat refine⟨by omega,?_⟩
       exact hr
    ·have h3:¬(false=false∧act=(dn.length:Int)):=fun hh=>h4 hh.2
     by_cases h5:(up.length:Int)<fl
     ·have hr:=ZaG rA ((rS.trans (Zhq h3)).trans (Zc0 h5))
      simp[-List.getD_eq_getElem?_getD,Zar,AV.bx,Zac,h0,he,Zae,Zaa,h1,c1,c2,hact,j1,j2,j3,j4,h4,h5,Zfm]
      repeat refine⟨by omega,?_⟩
      exact hr
     ·have hr:=ZaG rA ((rS.trans (Zhq h3)).trans (ZeT h5))
      simp[-List.getD_eq_getElem?_getD,Zar,AV.bx,Zac,h0,he,Zae,Zaa,h1,c1,c2,hact,j1,j2,j3,j4,h4,h5]
      repeat refine⟨by omega,?_⟩
      exact hr
   ·have h3:¬(true=false∧act=(dn.length:Int)):=fun hh=>by cases hh.1
    by_cases h5:(up.length:Int)<fl
    ·have hr:=ZaG (ks:=ks) (rs:=rs) (l:=l) (wn:=wn) (fl:=fl) (s:=⟨at0,mo,dn,true,ba,to,dw,up⟩) (k:=2) (n:=en) (by simp[ZaT];omega) (((show appS ks rs l fl ⟨at0,mo,dn,true,ba,to,dw,up⟩ 2 en=Zd8 fl (Zjc ks rs l ⟨at0,mo,dn,true,ba,to,ZbO dw en,up⟩ act) by rw[←hact];rfl).trans (Zhq h3)).trans (Zc0 h5))
     simp[-List.getD_eq_getElem?_getD,Zar,AV.bx,Zac,h0,he,Zae,Zaa,h1,c1,c2,hact,j1,j2,j3,j4,h5,Zfm]
     repeat refine⟨by omega,?_⟩
     exact hr
    ·have hr:=ZaG (ks:=ks) (rs:=rs) (l:=l) (wn:=wn) (fl:=fl) (s:=⟨at0,mo,dn,true,ba,to,dw,up⟩) (k:=2) (n:=en) (by simp[ZaT];omega) (((show appS ks rs l fl ⟨at0,mo,dn,true,ba,to,dw,up⟩ 2 en=Zd8 fl (Zjc ks rs l ⟨at0,mo,dn,true,ba,to,ZbO dw en,up⟩ act) by rw[←hact];rfl).trans (Zhq h3)).trans (ZeT h5))
     simp[-List.getD_eq_getElem?_getD,Zar,AV.bx,Zac,h0,he,Zae,Zaa,h1,c1,c2,hact,j1,j2,j3,j4,h5]
     repeat refine⟨by omega,?_⟩
     exact hr)
end
def Bs:List Ctr:=[]++Br
theorem ZH6:ZaF Tryz.prog Bs:=ZKw
end Go.Proofs.YtkeoeooghhjibaaGreatDoor
