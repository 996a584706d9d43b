/- Paths of functions, printed by the explorer (Gx). No condition. -/
import Derived.Test.YtkeoeooghhjibaaGreatDoorDu
import Derived.KernelRfl
namespace Go.Proofs.YtkeoeooghhjibaaGreatDoor
set_option maxRecDepth 100000
set_option linter.unusedVariables false
def ZGz(ms ks rs l:List AV)(wn fl:Int)(vs:List AV):AFrame:={ fn:=7,N:=235,env:=[(0,AV.agg (Row.gen [.list (Row.big .str ms), .list (Row.big (.agg [.str, .int .i64]) ks), .list (Row.big (.agg [.str, .int .i64, .int .i64, .int .i64, .int .i64]) rs), .list (Row.big (.agg [.int .i64, .int .i64, .int .i64]) l), .int .i64 wn, .int .i64 fl])),(1,AV.list (Row.big (.agg [.int .i64, .int .i64]) vs))],todo:=[.code a7.code],defs:=[],rnd:=none,ret:=false,res:=[ARes.tmp 4] }
def f7e(ms ks rs l:List AV)(wn fl:Int)(vs:List AV):List AFrame:=[(ZGz ms ks rs l wn fl vs)]
theorem ZBr(ms ks rs l:List AV)(wn fl:Int)(vs:List AV):Zat tab 7 [AV.agg (Row.gen [.list (Row.big .str ms), .list (Row.big (.agg [.str, .int .i64]) ks), .list (Row.big (.agg [.str, .int .i64, .int .i64, .int .i64, .int .i64]) rs), .list (Row.big (.agg [.int .i64, .int .i64, .int .i64]) l), .int .i64 wn, .int .i64 fl]),AV.list (Row.big (.agg [.int .i64, .int .i64]) vs)]=some (ZGz ms ks rs l wn fl vs):=rfl
def ZlE(ms ks rs l:List AV)(wn fl:Int)(vs:List AV)(l0:List Int)(n1 n2 n3 n4:Int)(x5:List AV)(b6:Bool)(n7:Int)(b8:Bool)(l9:List Int)(x10:List AV):List AFrame:=[{ fn:=7,N:=235,env:=[(1,AV.list (Row.big (.agg [.int .i64, .int .i64]) vs)),(2,AV.ptr 7003 0 0 0),(5,AV.list (.ints .i64 l0)),(6,AV.int .i64 n1),(7,AV.ptr 7008 0 0 0),(9,AV.int .i64 n2)],todo:=.code (ACode.gh [] ZFk)::ZGI,defs:=[],rnd:=none,ret:=false,res:=[ARes.tmp 4] }]
def Zjs(ms ks rs l:List AV)(wn fl:Int)(vs:List AV)(l0:List Int)(n1 n2 n3 n4:Int)(x5:List AV)(b6:Bool)(n7:Int)(b8:Bool)(l9:List Int)(x10:List AV):Zac:=[(7003,{ base:=0,blks:=[Blk.row 29 6 (Row.gen [AV.agg (Row.gen [AV.list (Row.big .str ms),AV.list (Row.big (.agg [.str, .int .i64]) ks),AV.list (Row.big (.agg [.str, .int .i64, .int .i64, .int .i64, .int .i64]) rs),AV.list (Row.big (.agg [.int .i64, .int .i64, .int .i64]) l),AV.int .i64 wn,AV.int .i64 fl])])] }),(7008,{ base:=0,blks:=[Blk.row 37 8 (Row.gen [AV.agg (Row.gen [AV.int .i64 n3,AV.int .i64 n4,AV.list (Row.big (.agg [.int .i64, .int .i64]) x5),AV.bool b6,AV.int .i64 n7,AV.bool b8,AV.list (.ints .i64 l9),AV.list (Row.big (.agg [.int .i64, .bool]) x10)])])] })]
abbrev Zgo(ms ks rs l:List AV)(wn fl:Int)(vs:List AV)(l0:List Int)(n1 n2 n3 n4:Int)(x5:List AV)(b6:Bool)(n7:Int)(b8:Bool)(l9:List Int)(x10:List AV):List AFrame×Zac:=(ZlE ms ks rs l wn fl vs l0 n1 n2 n3 n4 x5 b6 n7 b8 l9 x10,Zjs ms ks rs l wn fl vs l0 n1 n2 n3 n4 x5 b6 n7 b8 l9 x10)
def Zlp(ms ks rs l:List AV)(wn fl:Int)(l0:List Int)(n3 n4:Int)(x5:List AV)(b6:Bool)(n7:Int)(b8:Bool)(l9:List Int)(x10:List AV)(n11:Int):List AFrame:=[{ fn:=7,N:=235,env:=[(2,AV.ptr 7003 0 0 0),(5,AV.list (.ints .i64 l0)),(7,AV.ptr 7008 0 0 0),(12,AV.int .i64 n11)],todo:=.code (ACode.gh [] ZGg)::ZHv,defs:=[],rnd:=none,ret:=false,res:=[ARes.tmp 4] }]
def Zju(ms ks rs l:List AV)(wn fl:Int)(l0:List Int)(n3 n4:Int)(x5:List AV)(b6:Bool)(n7:Int)(b8:Bool)(l9:List Int)(x10:List AV)(n11:Int):Zac:=[(7003,{ base:=0,blks:=[Blk.row 29 6 (Row.gen [AV.agg (Row.gen [AV.list (Row.big .str ms),AV.list (Row.big (.agg [.str, .int .i64]) ks),AV.list (Row.big (.agg [.str, .int .i64, .int .i64, .int .i64, .int .i64]) rs),AV.list (Row.big (.agg [.int .i64, .int .i64, .int .i64]) l),AV.int .i64 wn,AV.int .i64 fl])])] }),(7008,{ base:=0,blks:=[Blk.row 37 8 (Row.gen [AV.agg (Row.gen [AV.int .i64 n3,AV.int .i64 n4,AV.list (Row.big (.agg [.int .i64, .int .i64]) x5),AV.bool b6,AV.int .i64 n7,AV.bool b8,AV.list (.ints .i64 l9),AV.list (Row.big (.agg [.int .i64, .bool]) x10)])])] })]
abbrev Zmv(ms ks rs l:List AV)(wn fl:Int)(l0:List Int)(n3 n4:Int)(x5:List AV)(b6:Bool)(n7:Int)(b8:Bool)(l9:List Int)(x10:List AV)(n11:Int):List AFrame×Zac:=(Zlp ms ks rs l wn fl l0 n3 n4 x5 b6 n7 b8 l9 x10 n11,Zju ms ks rs l wn fl l0 n3 n4 x5 b6 n7 b8 l9 x10 n11)
def Zjd(ms ks rs l:List AV)(wn fl:Int)(l0:List Int)(n12 n13 n14 n15:Int)(x16:List AV)(b17:Bool)(n18:Int)(b19:Bool)(l20:List Int)(x21:List AV):List AFrame:=[{ fn:=7,N:=235,env:=[(2,AV.ptr 7003 0 0 0),(5,AV.list (.ints .i64 l0)),(13,AV.ptr 7014 0 0 0),(14,AV.int .i64 n12),(15,AV.int .i64 n13)],todo:=.code (ACode.gh [] ZFN)::ZHT,defs:=[],rnd:=none,ret:=false,res:=[ARes.tmp 4] }]
def Zgh(ms ks rs l:List AV)(wn fl:Int)(l0:List Int)(n12 n13 n14 n15:Int)(x16:List AV)(b17:Bool)(n18:Int)(b19:Bool)(l20:List Int)(x21:List AV):Zac:=[(7003,{ base:=0,blks:=[Blk.row 29 6 (Row.gen [AV.agg (Row.gen [AV.list (Row.big .str ms),AV.list (Row.big (.agg [.str, .int .i64]) ks),AV.list (Row.big (.agg [.str, .int .i64, .int .i64, .int .i64, .int .i64]) rs),AV.list (Row.big (.agg [.int .i64, .int .i64, .int .i64]) l),AV.int .i64 wn,AV.int .i64 fl])])] }),(7014,{ base:=0,blks:=[Blk.row 37 8 (Row.gen [AV.agg (Row.gen [AV.int .i64 n14,AV.int .i64 n15,AV.list (Row.big (.agg [.int .i64, .int .i64]) x16),AV.bool b17,AV.int .i64 n18,AV.bool b19,AV.list (.ints .i64 l20),AV.list (Row.big (.agg [.int .i64, .bool]) x21)])])] })]
abbrev Zi3(ms ks rs l:List AV)(wn fl:Int)(l0:List Int)(n12 n13 n14 n15:Int)(x16:List AV)(b17:Bool)(n18:Int)(b19:Bool)(l20:List Int)(x21:List AV):List AFrame×Zac:=(Zjd ms ks rs l wn fl l0 n12 n13 n14 n15 x16 b17 n18 b19 l20 x21,Zgh ms ks rs l wn fl l0 n12 n13 n14 n15 x16 b17 n18 b19 l20 x21)
def ZlR(ms ks rs l:List AV)(wn fl:Int)(l0:List Int)(n13:Int)(x22:List AV)(n23 n24 n25 n26:Int)(x27:List AV)(b28:Bool)(n29:Int)(b30:Bool)(l31:List Int)(x32:List AV):List AFrame:=[{ fn:=7,N:=235,env:=[(2,AV.ptr 7003 0 0 0),(5,AV.list (.ints .i64 l0)),(13,AV.ptr 7014 0 0 0),(14,AV.int .i64 n23),(15,AV.int .i64 n13),(16,AV.row 7175 0),(17,AV.int .i64 n24)],todo:=.code (ACode.gh [] ZFm)::ZG7,defs:=[],rnd:=none,ret:=false,res:=[ARes.tmp 4] }]
def Zi2(ms ks rs l:List AV)(wn fl:Int)(l0:List Int)(n13:Int)(x22:List AV)(n23 n24 n25 n26:Int)(x27:List AV)(b28:Bool)(n29:Int)(b30:Bool)(l31:List Int)(x32:List AV):Zac:=[(7003,{ base:=0,blks:=[Blk.row 29 6 (Row.gen [AV.agg (Row.gen [AV.list (Row.big .str ms),AV.list (Row.big (.agg [.str, .int .i64]) ks),AV.list (Row.big (.agg [.str, .int .i64, .int .i64, .int .i64, .int .i64]) rs),AV.list (Row.big (.agg [.int .i64, .int .i64, .int .i64]) l),AV.int .i64 wn,AV.int .i64 fl])])] }),(7014,{ base:=0,blks:=[Blk.row 37 8 (Row.gen [AV.agg (Row.gen [AV.int .i64 n25,AV.int .i64 n26,AV.list (Row.big (.agg [.int .i64, .int .i64]) x27),AV.bool b28,AV.int .i64 n29,AV.bool b30,AV.list (.ints .i64 l31),AV.list (Row.big (.agg [.int .i64, .bool]) x32)])])] }),(7175,{ base:=0,blks:=[Blk.row 63 2 (Row.big (.agg [.int .i64, .int .i64]) x22)] })]
abbrev Zjb(ms ks rs l:List AV)(wn fl:Int)(l0:List Int)(n13:Int)(x22:List AV)(n23 n24 n25 n26:Int)(x27:List AV)(b28:Bool)(n29:Int)(b30:Bool)(l31:List Int)(x32:List AV):List AFrame×Zac:=(ZlR ms ks rs l wn fl l0 n13 x22 n23 n24 n25 n26 x27 b28 n29 b30 l31 x32,Zi2 ms ks rs l wn fl l0 n13 x22 n23 n24 n25 n26 x27 b28 n29 b30 l31 x32)
def Zle(l0:List Int)(n14 n15:Int)(x16:List AV)(b17:Bool)(n18:Int)(b19:Bool)(l20:List Int)(x21:List AV)(n33:Int):List AFrame:=[{ fn:=7,N:=235,env:=[(5,AV.list (.ints .i64 l0)),(13,AV.ptr 7014 0 0 0),(18,AV.int .i64 n33)],todo:=.code (ACode.gh [] ZGr)::ZIe,defs:=[],rnd:=none,ret:=false,res:=[ARes.tmp 4] }]
def Zjm(l0:List Int)(n14 n15:Int)(x16:List AV)(b17:Bool)(n18:Int)(b19:Bool)(l20:List Int)(x21:List AV)(n33:Int):Zac:=[(7014,{ base:=0,blks:=[Blk.row 37 8 (Row.gen [AV.agg (Row.gen [AV.int .i64 n14,AV.int .i64 n15,AV.list (Row.big (.agg [.int .i64, .int .i64]) x16),AV.bool b17,AV.int .i64 n18,AV.bool b19,AV.list (.ints .i64 l20),AV.list (Row.big (.agg [.int .i64, .bool]) x21)])])] })]
abbrev ZmL(l0:List Int)(n14 n15:Int)(x16:List AV)(b17:Bool)(n18:Int)(b19:Bool)(l20:List Int)(x21:List AV)(n33:Int):List AFrame×Zac:=(Zle l0 n14 n15 x16 b17 n18 b19 l20 x21 n33,Zjm l0 n14 n15 x16 b17 n18 b19 l20 x21 n33)
def ZFn(A:Ar)(K:KT)(F:FT)(ms ks rs l:List AV)(wn fl:Int)(vs:List AV):Prop:=rB [!A.not true] (bB (A.not (Zh9 ms ks rs l)) (F (AV.bool true) (none)) (bB (A.lt 60 (A.int (A.lenA vs))) (F (AV.bool true) (none)) (rB [decide (Zax ms ks rs=true∧List.length l≤1000000)] (bB (A.not (A.eq (upE ms ks rs l wn fl) 0)) (F (AV.bool true) (none)) (rB [decide (Zax ms ks rs=true∧List.length l≤1000000),decide (List.length ms≤1000000∧List.length ks≤1000000∧List.length rs≤1000000∧List.length l≤1000000),decide (Zax ms ks rs=true∧List.length l≤1000000),decide (List.length l≤1000000),decide (List.length ms≤1000000∧List.length ks≤1000000∧List.length rs≤1000000)] (rB [!A.not (A.eq (upE ms ks rs l wn fl) 0)] (bB (A.eq (Zhw ms ks rs l) 0) (bB (A.not (A.eq (A.int (A.len (Zmo ms ks rs l))) (A.int (A.lenA l)))) (False) (rB [!A.not (A.eq (Zhw ms ks rs l) 0)] (K (Zgo (ms) (ks) (rs) (l) (wn) (fl) (vs) (Zmo ms ks rs l) (Zhw ms ks rs l) (0) (0) (0) ([]) (false) (0) (false) ([]) ([]))))) (rB [A.not (A.eq (Zhw ms ks rs l) 0)] (bB (A.not (A.eq (Zhw ms ks rs l) 12)) (False) (K (Zgo (ms) (ks) (rs) (l) (wn) (fl) (vs) (Zmo ms ks rs l) (Zhw ms ks rs l) (0) (0) (0) ([]) (false) (0) (false) ([]) ([]))))))))))))
theorem ZG6{A:Ar}{K:KT}{F:FT}{M:MT}{ms ks rs l:List AV}{wn fl:Int}{vs:List AV} :ZaK A tab Bw 7 K F M (.run 11 (.fy (.run 8 (.tf (.ty (.ty (.ty (.run 1 (.ty (.ty (.ty (.ty (.run 2 (.ty (.run 5 (.fn)))))))))))) (.fy (.fy (.fy (.run 1 (.tf (.ty (.ty (.ty (.run 2 (.ty (.run 5 (.fn))))))) (.fy (.fy (.fy (.run 2 (.tf (.run 5 (.fn)) (.run 23 (.fy (.fy (.fy (.tf (.ty (.ty (.ty (.ty (.ty (.alt [false,true] (.fy (.run 1 (.tf (.ty (.ty (.run 2 (.ty (.ty (.run 2 (.ty (.run 5 (.no))))))))) (.fy (.fy (.fy (.fy (.alt [false,false] (.fy (.run 2 (.fy (.run 9 (.hd))))) (.no))))))))) (.no))))))) (.fy (.fy (.fy (.fy (.fy (.alt [false,false] (.fy (.run 1 (.fy (.fy (.fy (.ty (.ty (.alt [false,true] (.fy (.run 2 (.tf (.run 5 (.no)) (.run 9 (.hd))))) (.no))))))))) (.no)))))))))))))))))))))))))) (f7e ms ks rs l wn fl vs) []=ZFn A K F ms ks rs l wn fl vs:=by kernel_rfl
def ZeL(A:Ar)(K:KT)(F:FT)(ms ks rs l:List AV)(wn fl:Int)(vs:List AV)(l0:List Int)(n1 n2 n3 n4:Int)(x5:List AV)(b6:Bool)(n7:Int)(b8:Bool)(l9:List Int)(x10:List AV):Prop:=bB (A.lt n2 (A.int (A.lenA vs))) (rB [decide ((Zax ms ks rs=true∧List.length l≤1000000)∧List.length x5≤1000000∧List.length l9≤1000000∧List.length x10≤1000000),Zah (Zah (A.le 0 n2) (Nat.blt (A.nat n2) (A.lenA vs))) true,decide (List.length x5≤1000000∧List.length l9≤1000000∧List.length x10≤1000000),decide (List.length ms≤1000000∧List.length ks≤1000000∧List.length rs≤1000000∧List.length l≤1000000)] (bB (A.eq (Zb4 ms ks rs l wn fl { t:=n3,mo:=n4,dn:=x5,ha:=b6,ba:=n7,to:=b8,dw:=l9,up:=x10 } ((A.nthA vs (A.nat n2)).cellAt 0).toI ((A.nthA vs (A.nat n2)).cellAt 1).toI) 0) (rB [A.inR .i64 (A.add n2 1)] (K (Zgo (ms) (ks) (rs) (l) (wn) (fl) (vs) (l0) (n1) (A.add n2 1) ((ZaA ms ks rs l wn fl { t:=n3,mo:=n4,dn:=x5,ha:=b6,ba:=n7,to:=b8,dw:=l9,up:=x10 } ((A.nthA vs (A.nat n2)).cellAt 0).toI ((A.nthA vs (A.nat n2)).cellAt 1).toI).1) ((ZaA ms ks rs l wn fl { t:=n3,mo:=n4,dn:=x5,ha:=b6,ba:=n7,to:=b8,dw:=l9,up:=x10 } ((A.nthA vs (A.nat n2)).cellAt 0).toI ((A.nthA vs (A.nat n2)).cellAt 1).toI).2) ((ZaA ms ks rs l wn fl { t:=n3,mo:=n4,dn:=x5,ha:=b6,ba:=n7,to:=b8,dw:=l9,up:=x10 } ((A.nthA vs (A.nat n2)).cellAt 0).toI ((A.nthA vs (A.nat n2)).cellAt 1).toI).3) ((ZaA ms ks rs l wn fl { t:=n3,mo:=n4,dn:=x5,ha:=b6,ba:=n7,to:=b8,dw:=l9,up:=x10 } ((A.nthA vs (A.nat n2)).cellAt 0).toI ((A.nthA vs (A.nat n2)).cellAt 1).toI).4) ((ZaA ms ks rs l wn fl { t:=n3,mo:=n4,dn:=x5,ha:=b6,ba:=n7,to:=b8,dw:=l9,up:=x10 } ((A.nthA vs (A.nat n2)).cellAt 0).toI ((A.nthA vs (A.nat n2)).cellAt 1).toI).5) ((ZaA ms ks rs l wn fl { t:=n3,mo:=n4,dn:=x5,ha:=b6,ba:=n7,to:=b8,dw:=l9,up:=x10 } ((A.nthA vs (A.nat n2)).cellAt 0).toI ((A.nthA vs (A.nat n2)).cellAt 1).toI).6) ((ZaA ms ks rs l wn fl { t:=n3,mo:=n4,dn:=x5,ha:=b6,ba:=n7,to:=b8,dw:=l9,up:=x10 } ((A.nthA vs (A.nat n2)).cellAt 0).toI ((A.nthA vs (A.nat n2)).cellAt 1).toI).7) ((ZaA ms ks rs l wn fl { t:=n3,mo:=n4,dn:=x5,ha:=b6,ba:=n7,to:=b8,dw:=l9,up:=x10 } ((A.nthA vs (A.nat n2)).cellAt 0).toI ((A.nthA vs (A.nat n2)).cellAt 1).toI).8)))) (rB [A.inR .i64 (A.add n2 1)] (K (Zgo (ms) (ks) (rs) (l) (wn) (fl) (vs) (l0) (n1) (A.add n2 1) (n3) (n4) (x5) (b6) (n7) (b8) (l9) (x10)))))) (bB (A.not (A.eq n1 0)) (F (AV.bool (A.lt (A.int (A.lenA x5)) (A.int (A.lenA l)))) (none)) (bB (A.lt (A.int (A.len l0)) (A.int (A.lenA x5))) (False) (K (Zmv (ms) (ks) (rs) (l) (wn) (fl) (l0) (n3) (n4) (x5) (b6) (n7) (b8) (l9) (x10) (0)))))
theorem Zmp{A:Ar}{K:KT}{F:FT}{M:MT}{ms ks rs l:List AV}{wn fl:Int}{vs:List AV}{l0:List Int}{n1 n2 n3 n4:Int}{x5:List AV}{b6:Bool}{n7:Int}{b8:Bool}{l9:List Int}{x10:List AV} :ZaK A tab Bw 7 K F M (.run 9 (.tf (.run 11 (.tf (.run 12 (.hd)) (.run 9 (.hd)))) (.run 7 (.tf (.run 13 (.fn)) (.run 11 (.tf (.run 5 (.no)) (.run 9 (.hd)))))))) (ZlE ms ks rs l wn fl vs l0 n1 n2 n3 n4 x5 b6 n7 b8 l9 x10) (Zjs ms ks rs l wn fl vs l0 n1 n2 n3 n4 x5 b6 n7 b8 l9 x10)=ZeL A K F ms ks rs l wn fl vs l0 n1 n2 n3 n4 x5 b6 n7 b8 l9 x10:=by kernel_rfl
def ZiS(A:Ar)(K:KT)(F:FT)(ms ks rs l:List AV)(wn fl:Int)(l0:List Int)(n3 n4:Int)(x5:List AV)(b6:Bool)(n7:Int)(b8:Bool)(l9:List Int)(x10:List AV)(n11:Int):Prop:=bB (A.lt n11 (A.int (A.lenA x5))) (rB [Zah (Zah (A.le 0 n11) (Nat.blt (A.nat n11) (A.len l0))) true,Zah (Zah (A.le 0 n11) (Nat.blt (A.nat n11) (A.lenA x5))) true] (bB (A.lt ((A.nthA x5 (A.nat n11)).cellAt 1).toI (A.nth l0 (A.nat n11))) (False) (rB [A.inR .i64 (A.add n11 1)] (K (Zmv (ms) (ks) (rs) (l) (wn) (fl) (l0) (n3) (n4) (x5) (b6) (n7) (b8) (l9) (x10) (A.add n11 1)))))) (rB [decide (Zax ms ks rs=true∧List.length l≤1000000),decide (List.length ms≤1000000∧List.length ks≤1000000∧List.length rs≤1000000∧List.length l≤1000000)] (K (Zi3 (ms) (ks) (rs) (l) (wn) (fl) (l0) (upE ms ks rs l wn fl) (0) (0) (0) ([]) (false) (0) (false) ([]) ([]))))
theorem ZlZ{A:Ar}{K:KT}{F:FT}{M:MT}{ms ks rs l:List AV}{wn fl:Int}{l0:List Int}{n3 n4:Int}{x5:List AV}{b6:Bool}{n7:Int}{b8:Bool}{l9:List Int}{x10:List AV}{n11:Int} :ZaK A tab Bw 7 K F M (.run 10 (.tf (.run 6 (.tf (.run 5 (.no)) (.run 9 (.hd)))) (.run 22 (.hd)))) (Zlp ms ks rs l wn fl l0 n3 n4 x5 b6 n7 b8 l9 x10 n11) (Zju ms ks rs l wn fl l0 n3 n4 x5 b6 n7 b8 l9 x10 n11)=ZiS A K F ms ks rs l wn fl l0 n3 n4 x5 b6 n7 b8 l9 x10 n11:=by kernel_rfl
def Zgs(A:Ar)(K:KT)(F:FT)(ms ks rs l:List AV)(wn fl:Int)(l0:List Int)(n12 n13 n14 n15:Int)(x16:List AV)(b17:Bool)(n18:Int)(b19:Bool)(l20:List Int)(x21:List AV):Prop:=bB (A.lt n13 (A.int (A.len l0))) (bB (A.eq n12 0) (rB [Zah (Zah (A.le 0 n13) (Nat.blt (A.nat n13) (A.len l0))) true] (bB (A.not (Zab (A.nth l0 (A.nat n13)) n14 1000000000000)) (False) (rB [Zah (Zah (A.le 0 n13) (Nat.blt (A.nat n13) (A.len l0))) true] (bB (A.lt n14 (A.nth l0 (A.nat n13))) (rB [Nat.ble (A.lenA [AV.agg (Row.gen [.int .i64 0, .int .i64 (A.sub (A.nth l0 (A.nat n13)) n14)])]+A.lenA [AV.agg (Row.gen [.int .i64 1, .int .i64 n13]),AV.agg (Row.gen [.int .i64 2, .int .i64 0]),AV.agg (Row.gen [.int .i64 3, .int .i64 0])]) 4294967296,List.all [AV.agg (Row.gen [.int .i64 1, .int .i64 n13]),AV.agg (Row.gen [.int .i64 2, .int .i64 0]),AV.agg (Row.gen [.int .i64 3, .int .i64 0])] fun x=>AV.bx x&&Nat.beq (Zad A x) 2,Zah (Nat.ble (A.lenA [AV.agg (Row.gen [.int .i64 0, .int .i64 (A.sub (A.nth l0 (A.nat n13)) n14)])]) 4294967296) (Nat.blt 0 (A.lenA [AV.agg (Row.gen [.int .i64 0, .int .i64 (A.sub (A.nth l0 (A.nat n13)) n14)])])),List.all [AV.agg (Row.gen [.int .i64 0, .int .i64 (A.sub (A.nth l0 (A.nat n13)) n14)])] fun x=>AV.bx x&&Nat.beq (Zad A x) 2,A.inR .i64 (A.sub (A.nth l0 (A.nat n13)) n14),Zah (Zah (A.le 0 n13) (Nat.blt (A.nat n13) (A.len l0))) true] (K (Zjb (ms) (ks) (rs) (l) (wn) (fl) (l0) (n13) (A.appA [AV.agg (Row.gen [.int .i64 0, .int .i64 (A.sub (A.nth l0 (A.nat n13)) n14)])] [AV.agg (Row.gen [.int .i64 1, .int .i64 n13]),AV.agg (Row.gen [.int .i64 2, .int .i64 0]),AV.agg (Row.gen [.int .i64 3, .int .i64 0])]) (n12) (0) (n14) (n15) (x16) (b17) (n18) (b19) (l20) (x21)))) (rB [Zah (Nat.ble (A.lenA [AV.agg (Row.gen [.int .i64 1, .int .i64 n13]),AV.agg (Row.gen [.int .i64 2, .int .i64 0]),AV.agg (Row.gen [.int .i64 3, .int .i64 0])]) 4294967296) (Nat.blt 0 (A.lenA [AV.agg (Row.gen [.int .i64 1, .int .i64 n13]),AV.agg (Row.gen [.int .i64 2, .int .i64 0]),AV.agg (Row.gen [.int .i64 3, .int .i64 0])])),List.all [AV.agg (Row.gen [.int .i64 1, .int .i64 n13]),AV.agg (Row.gen [.int .i64 2, .int .i64 0]),AV.agg (Row.gen [.int .i64 3, .int .i64 0])] fun x=>AV.bx x&&Nat.beq (Zad A x) 2] (K (Zjb (ms) (ks) (rs) (l) (wn) (fl) (l0) (n13) ([AV.agg (Row.gen [.int .i64 1, .int .i64 n13]),AV.agg (Row.gen [.int .i64 2, .int .i64 0]),AV.agg (Row.gen [.int .i64 3, .int .i64 0])]) (n12) (0) (n14) (n15) (x16) (b17) (n18) (b19) (l20) (x21)))))))) (rB [A.not (A.eq n12 0)] (False))) (bB (A.not (A.eq n12 0)) (False) (bB (A.not (A.eq (A.int (A.lenA x16)) (A.int (A.len l0)))) (False) (bB (b17) (False) (bB (A.not (A.eq n18 (A.int (A.len l0)))) (False) (K (ZmL (l0) (n14) (n15) (x16) (b17) (n18) (b19) (l20) (x21) (0)))))))
theorem Zmr{A:Ar}{K:KT}{F:FT}{M:MT}{ms ks rs l:List AV}{wn fl:Int}{l0:List Int}{n12 n13 n14 n15:Int}{x16:List AV}{b17:Bool}{n18:Int}{b19:Bool}{l20:List Int}{x21:List AV} :ZaK A tab Bw 7 K F M (.run 9 (.tf (.ty (.ty (.run 2 (.tf (.run 11 (.tf (.run 5 (.no)) (.run 5 (.tf (.run 20 (.hd)) (.run 20 (.hd)))))) (.run 7 (.ty (.ty (.ty (.ty (.ty (.ty (.ty (.run 1 (.ty (.ty (.ty (.run 1 (.ty (.ty (.ty (.ty (.ty (.ty (.run 2 (.ty (.run 5 (.no))))))))))))))))))))))))))) (.fy (.fy (.run 2 (.fy (.run 7 (.tf (.ty (.ty (.ty (.ty (.ty (.ty (.run 1 (.ty (.ty (.ty (.run 1 (.ty (.ty (.ty (.ty (.ty (.ty (.run 2 (.ty (.run 5 (.no))))))))))))))))))))) (.fy (.fy (.fy (.fy (.fy (.fy (.run 1 (.tf (.ty (.ty (.run 1 (.ty (.ty (.ty (.ty (.ty (.ty (.run 2 (.ty (.run 5 (.no))))))))))))) (.fy (.fy (.run 1 (.tf (.ty (.ty (.ty (.ty (.ty (.run 2 (.ty (.run 5 (.no))))))))) (.fy (.fy (.fy (.fy (.fy (.run 2 (.tf (.run 5 (.no)) (.run 9 (.hd))))))))))))))))))))))))))))) (Zjd ms ks rs l wn fl l0 n12 n13 n14 n15 x16 b17 n18 b19 l20 x21) (Zgh ms ks rs l wn fl l0 n12 n13 n14 n15 x16 b17 n18 b19 l20 x21)=Zgs A K F ms ks rs l wn fl l0 n12 n13 n14 n15 x16 b17 n18 b19 l20 x21:=by kernel_rfl
def Zjl(A:Ar)(K:KT)(F:FT)(ms ks rs l:List AV)(wn fl:Int)(l0:List Int)(n13:Int)(x22:List AV)(n23 n24 n25 n26:Int)(x27:List AV)(b28:Bool)(n29:Int)(b30:Bool)(l31:List Int)(x32:List AV):Prop:=bB (A.lt n24 (A.int (A.lenA x22))) (bB (A.eq n23 0) (rB [A.inR .i64 (A.add n24 1),decide ((Zax ms ks rs=true∧List.length l≤1000000)∧List.length x27≤1000000∧List.length l31≤1000000∧List.length x32≤1000000),Zah (Nat.blt (A.nat n24) (A.lenA x22)) true,Zah (A.le 0 n24) (Nat.blt (A.nat n24) (A.lenA x22)),decide (List.length x27≤1000000∧List.length l31≤1000000∧List.length x32≤1000000),decide (List.length ms≤1000000∧List.length ks≤1000000∧List.length rs≤1000000∧List.length l≤1000000)] (K (Zjb (ms) (ks) (rs) (l) (wn) (fl) (l0) (n13) (x22) (Zb4 ms ks rs l wn fl { t:=n25,mo:=n26,dn:=x27,ha:=b28,ba:=n29,to:=b30,dw:=l31,up:=x32 } ((A.nthA x22 (A.nat n24)).cellAt 0).toI ((A.nthA x22 (A.nat n24)).cellAt 1).toI) (A.add n24 1) ((ZaA ms ks rs l wn fl { t:=n25,mo:=n26,dn:=x27,ha:=b28,ba:=n29,to:=b30,dw:=l31,up:=x32 } ((A.nthA x22 (A.nat n24)).cellAt 0).toI ((A.nthA x22 (A.nat n24)).cellAt 1).toI).1) ((ZaA ms ks rs l wn fl { t:=n25,mo:=n26,dn:=x27,ha:=b28,ba:=n29,to:=b30,dw:=l31,up:=x32 } ((A.nthA x22 (A.nat n24)).cellAt 0).toI ((A.nthA x22 (A.nat n24)).cellAt 1).toI).2) ((ZaA ms ks rs l wn fl { t:=n25,mo:=n26,dn:=x27,ha:=b28,ba:=n29,to:=b30,dw:=l31,up:=x32 } ((A.nthA x22 (A.nat n24)).cellAt 0).toI ((A.nthA x22 (A.nat n24)).cellAt 1).toI).3) ((ZaA ms ks rs l wn fl { t:=n25,mo:=n26,dn:=x27,ha:=b28,ba:=n29,to:=b30,dw:=l31,up:=x32 } ((A.nthA x22 (A.nat n24)).cellAt 0).toI ((A.nthA x22 (A.nat n24)).cellAt 1).toI).4) ((ZaA ms ks rs l wn fl { t:=n25,mo:=n26,dn:=x27,ha:=b28,ba:=n29,to:=b30,dw:=l31,up:=x32 } ((A.nthA x22 (A.nat n24)).cellAt 0).toI ((A.nthA x22 (A.nat n24)).cellAt 1).toI).5) ((ZaA ms ks rs l wn fl { t:=n25,mo:=n26,dn:=x27,ha:=b28,ba:=n29,to:=b30,dw:=l31,up:=x32 } ((A.nthA x22 (A.nat n24)).cellAt 0).toI ((A.nthA x22 (A.nat n24)).cellAt 1).toI).6) ((ZaA ms ks rs l wn fl { t:=n25,mo:=n26,dn:=x27,ha:=b28,ba:=n29,to:=b30,dw:=l31,up:=x32 } ((A.nthA x22 (A.nat n24)).cellAt 0).toI ((A.nthA x22 (A.nat n24)).cellAt 1).toI).7) ((ZaA ms ks rs l wn fl { t:=n25,mo:=n26,dn:=x27,ha:=b28,ba:=n29,to:=b30,dw:=l31,up:=x32 } ((A.nthA x22 (A.nat n24)).cellAt 0).toI ((A.nthA x22 (A.nat n24)).cellAt 1).toI).8)))) (rB [A.inR .i64 (A.add n13 1)] (K (Zi3 (ms) (ks) (rs) (l) (wn) (fl) (l0) (n23) (A.add n13 1) (n25) (n26) (x27) (b28) (n29) (b30) (l31) (x32))))) (rB [A.inR .i64 (A.add n13 1)] (K (Zi3 (ms) (ks) (rs) (l) (wn) (fl) (l0) (n23) (A.add n13 1) (n25) (n26) (x27) (b28) (n29) (b30) (l31) (x32))))
theorem Zme{A:Ar}{K:KT}{F:FT}{M:MT}{ms ks rs l:List AV}{wn fl:Int}{l0:List Int}{n13:Int}{x22:List AV}{n23 n24 n25 n26:Int}{x27:List AV}{b28:Bool}{n29:Int}{b30:Bool}{l31:List Int}{x32:List AV} :ZaK A tab Bw 7 K F M (.run 9 (.tf (.ty (.ty (.run 2 (.tf (.run 12 (.hd)) (.run 9 (.hd)))))) (.fy (.fy (.run 2 (.fy (.run 9 (.hd)))))))) (ZlR ms ks rs l wn fl l0 n13 x22 n23 n24 n25 n26 x27 b28 n29 b30 l31 x32) (Zi2 ms ks rs l wn fl l0 n13 x22 n23 n24 n25 n26 x27 b28 n29 b30 l31 x32)=Zjl A K F ms ks rs l wn fl l0 n13 x22 n23 n24 n25 n26 x27 b28 n29 b30 l31 x32:=by kernel_rfl
def Zi9(A:Ar)(K:KT)(F:FT)(l0:List Int)(n14 n15:Int)(x16:List AV)(b17:Bool)(n18:Int)(b19:Bool)(l20:List Int)(x21:List AV)(n33:Int):Prop:=bB (A.lt n33 (A.int (A.len l0))) (rB [Zah (Zah (A.le 0 n33) (Nat.blt (A.nat n33) (A.len l0))) true,Zah (Zah (A.le 0 n33) (Nat.blt (A.nat n33) (A.lenA x16))) true] (bB (A.not (A.eq ((A.nthA x16 (A.nat n33)).cellAt 1).toI (A.nth l0 (A.nat n33)))) (False) (rB [A.inR .i64 (A.add n33 1)] (K (ZmL (l0) (n14) (n15) (x16) (b17) (n18) (b19) (l20) (x21) (A.add n33 1)))))) (F (AV.bool true) (none))
theorem ZmE{A:Ar}{K:KT}{F:FT}{M:MT}{l0:List Int}{n14 n15:Int}{x16:List AV}{b17:Bool}{n18:Int}{b19:Bool}{l20:List Int}{x21:List AV}{n33:Int} :ZaK A tab Bw 7 K F M (.run 9 (.tf (.run 6 (.tf (.run 5 (.no)) (.run 9 (.hd)))) (.run 6 (.fn)))) (Zle l0 n14 n15 x16 b17 n18 b19 l20 x21 n33) (Zjm l0 n14 n15 x16 b17 n18 b19 l20 x21 n33)=Zi9 A K F l0 n14 n15 x16 b17 n18 b19 l20 x21 n33:=by kernel_rfl
end Go.Proofs.YtkeoeooghhjibaaGreatDoor
/- The law on early acts, walked. No condition. -/
namespace Go.Proofs.YtkeoeooghhjibaaGreatDoor
section
variable {C:Ctx}(hC:C.P=Tryz.prog)
include hC
theorem ZBl(T:List Int)(x:List AV)(n14 n15:Int)(b17:Bool)(n18:Int)(b19:Bool)(l20:List Int)(x21:List AV)(hx:x.length=T.length)(hT:T.length≤1000000)(he:∀j:Nat,j<T.length→Zaj x j 1=T.getD j 0):∀m k:Nat,k+m=T.length→Ev C (Zle T n14 n15 x b17 n18 b19 l20 x21 k) (Zjm T n14 n15 x b17 n18 b19 l20 x21 k) (Zcq 7 (.bool true) none)
 |0,k,hk=>tgo hC Zg2 ZmE (by simp[Zi9,show ¬(k:Int)<T.length by omega])
 |m+1,k,hk=>by
  have ih:=ZBl T x n14 n15 b17 n18 b19 l20 x21 hx hT he m (k+1) (by omega)
  have hlt:(k:Int)<T.length:=by omega
  have hlt2:k<T.length:=by omega
  have hlt3:k<x.length:=by omega
  have e1:((x.getD k .top).cellAt 1).toI=T.getD k 0:=he k hlt2
  refine tgo hC Zg2 ZmE ?_
  simp[-List.getD_eq_getElem?_getD,Zi9,hlt,hlt2,hlt3,e1]
  exact⟨by omega,by simpa using ih⟩
variable (ms ks rs l:List AV)(wn fl:Int)(hu:upE ms ks rs l wn fl=0)(hb:Zax ms ks rs=true∧l.length≤1000000)(hm:ms.length≤1000000∧ks.length≤1000000∧rs.length≤1000000)
include hb hm
theorem ZFv(T:List Int)(i:Nat)(hi:i≤1000000)(W:List AV)(hW:W.length≤10)(s':ST)(hq:Ev C (Zjd ms ks rs l wn fl T 0 (i+1:Nat) s'.t s'.mo s'.dn s'.ha s'.ba s'.to s'.dw s'.up) (Zgh ms ks rs l wn fl T 0 (i+1:Nat) s'.t s'.mo s'.dn s'.ha s'.ba s'.to s'.dw s'.up) (Zcq 7 (.bool true) none)):∀(m k:Nat) (s:ST),k+m=W.length→okW ms ks rs l wn fl (W.drop k) s s'→Ev C (ZlR ms ks rs l wn fl T i W 0 k s.t s.mo s.dn s.ha s.ba s.to s.dw s.up) (Zi2 ms ks rs l wn fl T i W 0 k s.t s.mo s.dn s.ha s.ba s.to s.dw s.up) (Zcq 7 (.bool true) none)
 |0,k,s,hk,ho=>tgo hC Zg2 Zme (by
  rw[List.drop_of_length_le (by omega)]at ho
  cases ho
  simp[Zjl,show ¬(k:Int)<W.length by omega]
  exact⟨by omega,by simpa using hq⟩)
 |m+1,k,s,hk,ho=>by
  have hlt:(k:Int)<W.length:=by omega
  have hlt2:k<W.length:=by omega
  rw[Zx5 hlt2]at ho
  obtain⟨hc,ho⟩:=ho
  obtain⟨hu,hs,_,_⟩:=codeP_zero.1 hc
  obtain⟨hf,_,hfl⟩:=Zbl hu
  have hll:=hf.l1
  have g1:s.dn.length≤1000000∧s.dw.length≤1000000∧s.up.length≤1000000:=by have:=hs.len;omega
  have ih:=ZFv T i hi W hW s' hq m (k+1) _ (by omega) ho
  have es:ZaA ms ks rs l wn fl s ((W.getD k .top).cellAt 0).toI ((W.getD k .top).cellAt 1).toI=appS ks rs l fl s ((W.getD k .top).cellAt 0).toI ((W.getD k .top).cellAt 1).toI:=by unfold ZaA;rw[if_pos hc]
  refine tgo hC Zg2 Zme ?_
  simp[-List.getD_eq_getElem?_getD,Zjl,hlt,hlt2,hc,es,hb,hm,g1]
  exact⟨by omega,by simpa using ih⟩
include hu
theorem ZsY(T:List Int)(hT:ZkP ks rs l=some T)(hl:T.length=l.length):∀(m i:Nat),i+m=T.length→Ev C (Zjd ms ks rs l wn fl T 0 i (stW ks l T i).t (stW ks l T i).mo (stW ks l T i).dn (stW ks l T i).ha (stW ks l T i).ba (stW ks l T i).to (stW ks l T i).dw (stW ks l T i).up) (Zgh ms ks rs l wn fl T 0 i (stW ks l T i).t (stW ks l T i).mo (stW ks l T i).dn (stW ks l T i).ha (stW ks l T i).ba (stW ks l T i).to (stW ks l T i).dw (stW ks l T i).up) (Zcq 7 (.bool true) none)
 |0,i,hi=>tgo hC Zg2 Zmr (by
  obtain rfl:i=T.length:=by omega
  have:=ZBl hC T (dnT T T.length) (tmT T T.length) (m0A ks l T.length) false T.length false [] [] (ZiM _ _) (by omega) (fun j hj=>ZiO hj) T.length 0 (by omega)
  simp[Zgs,stW,ZiM]
  simpa using this)
 |m+1,i,hi=>by
  have ih:=ZsY T hT hl m (i+1) (by omega)
  have hlt:(i:Int)<T.length:=by omega
  have hlt2:i<T.length:=by omega
  obtain⟨h1,h2,h3⟩:=Zx8 hu hT (show i<l.length by omega)
  have hw:Zab (T.getD i 0) (tmT T i) 1000000000000=true:=within_iff.2 ⟨h1,h2⟩
  have ht:0≤tmT T i:=(Zp5 hu hT i (by omega)).t.1
  have way:=fun W hW ho=>ZFv hC ms ks rs l wn fl hb hm T i (by omega) W hW _ ih W.length 0 (stW ks l T i) (by omega) ho
  unfold stW at way⊢
  refine tgo hC Zg2 Zmr ?_
  by_cases hlt3:tmT T i<T.getD i 0
  ·rw[if_pos hlt3]at h3
   have:=way _ (by simp[ZwB]) h3
   unfold ZwB at this
   simp[-List.getD_eq_getElem?_getD,Zgs,hlt,hlt2,hlt3,hw,AV.bx,Zad,Row.len]
   exact⟨by omega,by simpa[-List.getD_eq_getElem?_getD]using this⟩
  ·rw[if_neg hlt3]at h3
   have:=way _ (by simp[ZwB]) h3
   unfold ZwB at this
   simp[-List.getD_eq_getElem?_getD,Zgs,hlt,hlt2,hlt3,hw,AV.bx,Zad,Row.len]
   simpa[-List.getD_eq_getElem?_getD]using this
theorem Zyc(T:List Int)(hT:ZkP ks rs l=some T)(hl:T.length=l.length)(s:ST)(hs:VS ks rs l fl s):∀(m k:Nat),k+m=s.dn.length→Ev C (Zlp ms ks rs l wn fl T s.t s.mo s.dn s.ha s.ba s.to s.dw s.up k) (Zju ms ks rs l wn fl T s.t s.mo s.dn s.ha s.ba s.to s.dw s.up k) (Zcq 7 (.bool true) none)
 |0,k,hk=>tgo hC Zg2 ZlZ (by
  have:=ZsY hC ms ks rs l wn fl hu hb hm T hT hl T.length 0 (by omega)
  unfold stW at this
  simp[ZiS,show ¬(k:Int)<s.dn.length by omega,hb,hm,hu]
  simpa[tmT,dnT,m0A,Zve]using this)
 |m+1,k,hk=>by
  have ih:=Zyc T hT hl s hs m (k+1) (by omega)
  obtain⟨hf,_,hfl⟩:=Zbl hu
  have hll:=hf.l1
  have hle:=hs.len.1
  have hlt:(k:Int)<s.dn.length:=by omega
  have hlt2:k<s.dn.length:=by omega
  have hlt3:k<T.length:=by omega
  have e1:((s.dn.getD k .top).cellAt 1).toI=Zaj s.dn k 1:=rfl
  have h1:=(ZmH hf hs).1 T hT k hlt2
  refine tgo hC Zg2 ZlZ ?_
  simp[-List.getD_eq_getElem?_getD,ZiS,hlt,hlt2,hlt3,e1,show ¬Zaj s.dn k 1<T.getD k 0 by omega]
  exact⟨by omega,by simpa using ih⟩
theorem ZFo(vs:List AV)(hv:vs.length≤60):∀(m k:Nat) (s:ST),k+m=vs.length→VS ks rs l fl s→Ev C (ZlE ms ks rs l wn fl vs (Zmo ms ks rs l) (Zhw ms ks rs l) k s.t s.mo s.dn s.ha s.ba s.to s.dw s.up) (Zjs ms ks rs l wn fl vs (Zmo ms ks rs l) (Zhw ms ks rs l) k s.t s.mo s.dn s.ha s.ba s.to s.dw s.up) (Zcq 7 (.bool true) none)
 |0,k,s,hk,hs=>by
  obtain⟨hf,_,hfl⟩:=Zbl hu
  have hfe:Zgf ms ks rs l=0:=ZBC hu
  refine tgo hC Zg2 Zmp ?_
  cases ho:ZkP ks rs l with
  |none=>
   have e1:Zhw ms ks rs l=12:=by simp[Zhw,hfe,ho]
   have h1:=(ZmH hf hs).2 ho
   simp[ZeL,show ¬(k:Int)<vs.length by omega,e1,h1]
  |some T=>
   have e1:Zhw ms ks rs l=0:=by simp[Zhw,hfe,ho]
   have e2:Zmo ms ks rs l=T:=by simp[Zmo,hfe,ho]
   have hl:T.length=l.length:=Zfu ks rs l _ _ _ _ _ T ho
   have:=Zyc hC ms ks rs l wn fl hu hb hm T ho hl s hs s.dn.length 0 (by omega)
   have h1:=hs.len.1
   simp[ZeL,show ¬(k:Int)<vs.length by omega,e1,e2,show ¬(T.length:Int)<s.dn.length by omega]
   simpa using this
 |m+1,k,s,hk,hs=>by
  have ih:=fun s=>ZFo vs hv m (k+1) s (by omega)
  obtain⟨hf,_,hfl⟩:=Zbl hu
  have hll:=hf.l1
  have g1:s.dn.length≤1000000∧s.dw.length≤1000000∧s.up.length≤1000000:=by have:=hs.len;omega
  have hlt:(k:Int)<vs.length:=by omega
  have hlt2:k<vs.length:=by omega
  have e0:((vs.getD k .top).cellAt 0).toI=Zaj vs k 0:=rfl
  have e1:((vs.getD k .top).cellAt 1).toI=Zaj vs k 1:=rfl
  refine tgo hC Zg2 Zmp ?_
  by_cases hc:Zb4 ms ks rs l wn fl s (Zaj vs k 0) (Zaj vs k 1)=0
  ·obtain⟨_,_,h1,h2⟩:=codeP_zero.1 hc
   have ih:=ih _ (ZpU hs h1 h2)
   have es:ZaA ms ks rs l wn fl s (Zaj vs k 0) (Zaj vs k 1)=appS ks rs l fl s (Zaj vs k 0) (Zaj vs k 1):=by unfold ZaA;rw[if_pos hc]
   simp[-List.getD_eq_getElem?_getD,ZeL,hlt,hlt2,e0,e1,hc,es,hb,hm,g1]
   exact⟨by omega,by simpa using ih⟩
  ·have ih:=ih s hs
   simp[-List.getD_eq_getElem?_getD,ZeL,hlt,hlt2,e0,e1,hc,hb,hm,g1]
   exact⟨by omega,by simpa using ih⟩
end
theorem ZpH(ms ks rs l:List AV)(wn fl:Int)(vs:List AV):Zao Tryz.prog 7 [.agg (.gen [.list (.big .str ms), .list (.big (.agg [.str, .int .i64]) ks), .list (.big (.agg [.str, .int .i64, .int .i64, .int .i64, .int .i64]) rs), .list (.big (.agg [.int .i64, .int .i64, .int .i64]) l), .int .i64 wn, .int .i64 fl]), .list (.big (.agg [.int .i64, .int .i64]) vs)] (.bool true) none:=
 start (ZBr ms ks rs l wn fl vs) fun C hC=>tgo hC Zg2 ZG6 (by
  unfold ZFn
  by_cases hs:Zh9 ms ks rs l=true
  ·have hs':=hs
   unfold Zh9 at hs'
   simp only[Bool.and_eq_true,decide_eq_true_eq]at hs'
   obtain⟨h1,h2,h3,h4⟩:=ZpC hs'.1
   have g1:ms.length≤1000000:=by omega
   have g2:ks.length≤1000000:=by omega
   have g3:rs.length≤1000000:=by omega
   have g4:l.length≤1000000:=by omega
   by_cases hv:(60:Int)<vs.length
   ·simp[hs,hv]
   ·by_cases hu:upE ms ks rs l wn fl=0
    ·have hfe:Zgf ms ks rs l=0:=ZBC hu
     have hfl:=(Zbl hu).2.2
     have hs0:VS ks rs l fl st0:=Zqd ks rs l (by omega)
     have:=ZFo hC ms ks rs l wn fl hu ⟨h1,g4⟩ ⟨g1,g2,g3⟩ vs (by omega) vs.length 0 st0 (by omega) hs0
     unfold st0 at this
     cases ho:ZkP ks rs l with
     |none=>
      have e1:Zhw ms ks rs l=12:=by simp[Zhw,hfe,ho]
      rw[e1]at this
      simp[hs,hv,h1,g1,g2,g3,g4,hu,e1]
      simpa using this
     |some T=>
      have e1:Zhw ms ks rs l=0:=by simp[Zhw,hfe,ho]
      have e2:Zmo ms ks rs l=T:=by simp[Zmo,hfe,ho]
      have hl:T.length=l.length:=Zfu ks rs l _ _ _ _ _ T ho
      rw[e1,e2]at this
      simp[hs,hv,h1,g1,g2,g3,g4,hu,e1,e2,hl]
      simpa using this
    ·simp[hs,hv,h1,g4,hu]
  ·simp[hs])
end Go.Proofs.YtkeoeooghhjibaaGreatDoor
