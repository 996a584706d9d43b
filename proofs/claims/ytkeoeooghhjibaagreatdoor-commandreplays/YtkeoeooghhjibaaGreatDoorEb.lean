/- Paths of functions, printed by the explorer (Gx). No condition. -/
import Derived.Test.YtkeoeooghhjibaaGreatDoorDz2
import Derived.KernelRfl
namespace Go.Proofs.YtkeoeooghhjibaaGreatDoor
set_option maxRecDepth 100000
set_option linter.unusedVariables false
def ZF9(ms ks rs l:List AV)(wn fl:Int)(vs:List AV):AFrame:={ fn:=3,N:=86,env:=[(0,AV.agg (Row.gen [.list (Row.big .str ms), .list (Row.big (.agg [.str, .int .i64]) ks), .list (Row.big (.agg [.str, .int .i64, .int .i64, .int .i64, .int .i64]) rs), .list (Row.big (.agg [.int .i64, .int .i64, .int .i64]) l), .int .i64 wn, .int .i64 fl])),(1,AV.list (Row.big (.agg [.int .i64, .int .i64]) vs))],todo:=[.code a3.code],defs:=[],rnd:=none,ret:=false,res:=[ARes.tmp 4] }
def f3e(ms ks rs l:List AV)(wn fl:Int)(vs:List AV):List AFrame:=[(ZF9 ms ks rs l wn fl vs)]
theorem ZzH(ms ks rs l:List AV)(wn fl:Int)(vs:List AV):Zar tab 3 [AV.agg (Row.gen [.list (Row.big .str ms), .list (Row.big (.agg [.str, .int .i64]) ks), .list (Row.big (.agg [.str, .int .i64, .int .i64, .int .i64, .int .i64]) rs), .list (Row.big (.agg [.int .i64, .int .i64, .int .i64]) l), .int .i64 wn, .int .i64 fl]),AV.list (Row.big (.agg [.int .i64, .int .i64]) vs)]=some (ZF9 ms ks rs l wn fl vs):=rfl
def ZGT(A:Ar)(K:KT)(F:FT)(ms ks rs l:List AV)(wn fl:Int)(vs:List AV):Prop:=rB [!A.not true] (bB (A.not (Zih ms ks rs l)) (F (AV.bool true) (none)) (bB (A.lt 60 (A.int (A.lenA vs))) (bB (A.le (A.int (A.lenA vs)) 200) (F (AV.bool true) (none)) (bB (A.lt 202 (A.int (A.lenA vs))) (F (AV.bool true) (none)) (rB [decide (ZaA ms ks rs=true∧List.length l≤1000000),decide (ZaA ms ks rs=true∧List.length l≤1000000),decide (List.length vs≤1000000),decide (List.length ms≤1000000∧List.length ks≤1000000∧List.length rs≤1000000∧List.length l≤1000000),decide (ZaA ms ks rs=true∧List.length l≤1000000),decide (List.length vs≤1000000),decide (List.length ms≤1000000∧List.length ks≤1000000∧List.length rs≤1000000∧List.length l≤1000000)] (bB (A.eq (upE ms ks rs l wn fl) 0) (rB [decide (upE ms ks rs l wn fl=0)] (bB (A.eq (Za2 ms ks rs l wn fl vs).snd.2 (ZcE ks rs l wn fl vs).snd.2) (bB (A.eq (Za2 ms ks rs l wn fl vs).snd.1 (ZcE ks rs l wn fl vs).snd.1) (rB [decide (List.length (Za2 ms ks rs l wn fl vs).fst.3≤1000000∧List.length (Za2 ms ks rs l wn fl vs).fst.7≤1000000∧List.length (Za2 ms ks rs l wn fl vs).fst.8≤1000000)] (bB (Zg4 (Za2 ms ks rs l wn fl vs).fst.1 (Za2 ms ks rs l wn fl vs).fst.2 (Za2 ms ks rs l wn fl vs).fst.3 (Za2 ms ks rs l wn fl vs).fst.4 (Za2 ms ks rs l wn fl vs).fst.5 (Za2 ms ks rs l wn fl vs).fst.6 (Za2 ms ks rs l wn fl vs).fst.7 (Za2 ms ks rs l wn fl vs).fst.8 (ZcE ks rs l wn fl vs).fst.1 (ZcE ks rs l wn fl vs).fst.2 (ZcE ks rs l wn fl vs).fst.3 (ZcE ks rs l wn fl vs).fst.4 (ZcE ks rs l wn fl vs).fst.5 (ZcE ks rs l wn fl vs).fst.6 (ZcE ks rs l wn fl vs).fst.7 (ZcE ks rs l wn fl vs).fst.8) (rB [A.eq (Za2 ms ks rs l wn fl vs).snd.2 (ZcE ks rs l wn fl vs).snd.2] (rB [decide (List.length (Za2 ms ks rs l wn fl vs).fst.3≤1000000)] (F (AV.bool (ZbV eq2 (Za2 ms ks rs l wn fl vs).fst.3 (ZcE ks rs l wn fl vs).fst.3)) (none)))) (False))) (False)) (False))) (bB (A.eq (Za2 ms ks rs l wn fl vs).snd.2 (upE ms ks rs l wn fl)) (bB (A.eq (Za2 ms ks rs l wn fl vs).snd.1 0) (rB [decide (List.length (Za2 ms ks rs l wn fl vs).fst.3≤1000000∧List.length (Za2 ms ks rs l wn fl vs).fst.7≤1000000∧List.length (Za2 ms ks rs l wn fl vs).fst.8≤1000000)] (bB (Zg4 (Za2 ms ks rs l wn fl vs).fst.1 (Za2 ms ks rs l wn fl vs).fst.2 (Za2 ms ks rs l wn fl vs).fst.3 (Za2 ms ks rs l wn fl vs).fst.4 (Za2 ms ks rs l wn fl vs).fst.5 (Za2 ms ks rs l wn fl vs).fst.6 (Za2 ms ks rs l wn fl vs).fst.7 (Za2 ms ks rs l wn fl vs).fst.8 0 0 [] false 0 false [] []) (rB [A.eq (Za2 ms ks rs l wn fl vs).snd.2 (upE ms ks rs l wn fl)] (rB [decide (List.length (Za2 ms ks rs l wn fl vs).fst.3≤1000000)] (F (AV.bool (ZbV eq2 (Za2 ms ks rs l wn fl vs).fst.3 [])) (none)))) (False))) (False)) (False)))))) (bB (A.lt 202 (A.int (A.lenA vs))) (F (AV.bool true) (none)) (rB [decide (ZaA ms ks rs=true∧List.length l≤1000000),decide (ZaA ms ks rs=true∧List.length l≤1000000),decide (List.length vs≤1000000),decide (List.length ms≤1000000∧List.length ks≤1000000∧List.length rs≤1000000∧List.length l≤1000000),decide (ZaA ms ks rs=true∧List.length l≤1000000),decide (List.length vs≤1000000),decide (List.length ms≤1000000∧List.length ks≤1000000∧List.length rs≤1000000∧List.length l≤1000000)] (bB (A.eq (upE ms ks rs l wn fl) 0) (rB [decide (upE ms ks rs l wn fl=0)] (bB (A.eq (Za2 ms ks rs l wn fl vs).snd.2 (ZcE ks rs l wn fl vs).snd.2) (bB (A.eq (Za2 ms ks rs l wn fl vs).snd.1 (ZcE ks rs l wn fl vs).snd.1) (rB [decide (List.length (Za2 ms ks rs l wn fl vs).fst.3≤1000000∧List.length (Za2 ms ks rs l wn fl vs).fst.7≤1000000∧List.length (Za2 ms ks rs l wn fl vs).fst.8≤1000000)] (bB (Zg4 (Za2 ms ks rs l wn fl vs).fst.1 (Za2 ms ks rs l wn fl vs).fst.2 (Za2 ms ks rs l wn fl vs).fst.3 (Za2 ms ks rs l wn fl vs).fst.4 (Za2 ms ks rs l wn fl vs).fst.5 (Za2 ms ks rs l wn fl vs).fst.6 (Za2 ms ks rs l wn fl vs).fst.7 (Za2 ms ks rs l wn fl vs).fst.8 (ZcE ks rs l wn fl vs).fst.1 (ZcE ks rs l wn fl vs).fst.2 (ZcE ks rs l wn fl vs).fst.3 (ZcE ks rs l wn fl vs).fst.4 (ZcE ks rs l wn fl vs).fst.5 (ZcE ks rs l wn fl vs).fst.6 (ZcE ks rs l wn fl vs).fst.7 (ZcE ks rs l wn fl vs).fst.8) (rB [A.eq (Za2 ms ks rs l wn fl vs).snd.2 (ZcE ks rs l wn fl vs).snd.2] (rB [decide (List.length (Za2 ms ks rs l wn fl vs).fst.3≤1000000)] (F (AV.bool (ZbV eq2 (Za2 ms ks rs l wn fl vs).fst.3 (ZcE ks rs l wn fl vs).fst.3)) (none)))) (False))) (False)) (False))) (bB (A.eq (Za2 ms ks rs l wn fl vs).snd.2 (upE ms ks rs l wn fl)) (bB (A.eq (Za2 ms ks rs l wn fl vs).snd.1 0) (rB [decide (List.length (Za2 ms ks rs l wn fl vs).fst.3≤1000000∧List.length (Za2 ms ks rs l wn fl vs).fst.7≤1000000∧List.length (Za2 ms ks rs l wn fl vs).fst.8≤1000000)] (bB (Zg4 (Za2 ms ks rs l wn fl vs).fst.1 (Za2 ms ks rs l wn fl vs).fst.2 (Za2 ms ks rs l wn fl vs).fst.3 (Za2 ms ks rs l wn fl vs).fst.4 (Za2 ms ks rs l wn fl vs).fst.5 (Za2 ms ks rs l wn fl vs).fst.6 (Za2 ms ks rs l wn fl vs).fst.7 (Za2 ms ks rs l wn fl vs).fst.8 0 0 [] false 0 false [] []) (rB [A.eq (Za2 ms ks rs l wn fl vs).snd.2 (upE ms ks rs l wn fl)] (rB [decide (List.length (Za2 ms ks rs l wn fl vs).fst.3≤1000000)] (F (AV.bool (ZbV eq2 (Za2 ms ks rs l wn fl vs).fst.3 [])) (none)))) (False))) (False)) (False)))))))
theorem ZHh{A:Ar}{K:KT}{F:FT}{M:MT}{ms ks rs l:List AV}{wn fl:Int}{vs:List AV} :ZaH A tab E2 3 K F M (.run 11 (.fy (.run 8 (.tf (.ty (.ty (.ty (.run 3 (.ty (.ty (.run 1 (.ty (.ty (.ty (.ty (.run 2 (.ty (.run 5 (.fn))))))))))))))) (.fy (.fy (.fy (.tf (.ty (.ty (.alt [false,true] (.fy (.run 1 (.tf (.ty (.ty (.ty (.run 2 (.ty (.run 5 (.fn))))))) (.fy (.fy (.fy (.run 2 (.tf (.run 5 (.fn)) (.run 51 (.tf (.run 18 (.tf (.ty (.ty (.ty (.run 1 (.tf (.ty (.ty (.ty (.run 1 (.tf (.ty (.ty (.ty (.run 1 (.ty (.ty (.ty (.ty (.ty (.run 4 (.fn))))))))))) (.fy (.fy (.fy (.run 1 (.fy (.fy (.fy (.fy (.fy (.run 4 (.no)))))))))))))))) (.fy (.fy (.fy (.run 1 (.fy (.fy (.fy (.fy (.run 1 (.fy (.fy (.fy (.fy (.fy (.run 4 (.no))))))))))))))))))))) (.fy (.fy (.fy (.run 1 (.fy (.fy (.fy (.fy (.run 1 (.fy (.fy (.fy (.fy (.run 1 (.fy (.fy (.fy (.fy (.fy (.run 4 (.no))))))))))))))))))))))) (.run 7 (.tf (.ty (.ty (.ty (.run 1 (.tf (.ty (.ty (.ty (.run 1 (.tf (.ty (.ty (.ty (.run 1 (.ty (.ty (.ty (.ty (.ty (.run 4 (.fn))))))))))) (.fy (.fy (.fy (.run 1 (.fy (.fy (.fy (.fy (.fy (.run 4 (.no)))))))))))))))) (.fy (.fy (.fy (.run 1 (.fy (.fy (.fy (.fy (.run 1 (.fy (.fy (.fy (.fy (.fy (.run 4 (.no))))))))))))))))))))) (.fy (.fy (.fy (.run 1 (.fy (.fy (.fy (.fy (.run 1 (.fy (.fy (.fy (.fy (.run 1 (.fy (.fy (.fy (.fy (.fy (.run 4 (.no))))))))))))))))))))))))))))))))) (.no)))) (.fy (.fy (.alt [false,false] (.fy (.run 1 (.fy (.fy (.fy (.fy (.run 2 (.tf (.run 5 (.fn)) (.run 51 (.tf (.run 18 (.tf (.ty (.ty (.ty (.run 1 (.tf (.ty (.ty (.ty (.run 1 (.tf (.ty (.ty (.ty (.run 1 (.ty (.ty (.ty (.ty (.ty (.run 4 (.fn))))))))))) (.fy (.fy (.fy (.run 1 (.fy (.fy (.fy (.fy (.fy (.run 4 (.no)))))))))))))))) (.fy (.fy (.fy (.run 1 (.fy (.fy (.fy (.fy (.run 1 (.fy (.fy (.fy (.fy (.fy (.run 4 (.no))))))))))))))))))))) (.fy (.fy (.fy (.run 1 (.fy (.fy (.fy (.fy (.run 1 (.fy (.fy (.fy (.fy (.run 1 (.fy (.fy (.fy (.fy (.fy (.run 4 (.no))))))))))))))))))))))) (.run 7 (.tf (.ty (.ty (.ty (.run 1 (.tf (.ty (.ty (.ty (.run 1 (.tf (.ty (.ty (.ty (.run 1 (.ty (.ty (.ty (.ty (.ty (.run 4 (.fn))))))))))) (.fy (.fy (.fy (.run 1 (.fy (.fy (.fy (.fy (.fy (.run 4 (.no)))))))))))))))) (.fy (.fy (.fy (.run 1 (.fy (.fy (.fy (.fy (.run 1 (.fy (.fy (.fy (.fy (.fy (.run 4 (.no))))))))))))))))))))) (.fy (.fy (.fy (.run 1 (.fy (.fy (.fy (.fy (.run 1 (.fy (.fy (.fy (.fy (.run 1 (.fy (.fy (.fy (.fy (.fy (.run 4 (.no))))))))))))))))))))))))))))))))) (.no)))))))))))) (f3e ms ks rs l wn fl vs) []=ZGT A K F ms ks rs l wn fl vs:=by kernel_rfl
end Go.Proofs.YtkeoeooghhjibaaGreatDoor
/- The law on replays, walked. No condition. -/
namespace Go.Proofs.YtkeoeooghhjibaaGreatDoor
theorem ZhO(t mo:Int)(dn:List AV)(ha:Bool)(ba:Int)(to:Bool)(dw:List Int)(up:List AV):Zg4 t mo dn ha ba to dw up t mo dn ha ba to dw up=true:=by simp[Zg4,ZcG ZiZ,ZcG Zrz]
theorem ZpH{ks rs l:List AV}{wn fl:Int}{vs:List AV}(hf:0≤fl):∀(m i:Nat) (s:ST),VS ks rs l fl s→VS ks rs l fl (repF ks rs l wn fl vs m i s).1
 |0,_,s,h=>h
 |m+1,i,s,h=>by
  rw[repF]
  split
  ·rename_i h1
   split
   ·rename_i h2
    exact ZpH hf m (i+1) _ (Zmp h h1 h2)
   ·exact Zic ks rs l hf
  ·exact Zic ks rs l hf
theorem Zxq{ks rs l:List AV}{wn fl:Int}{vs:List AV}(hf:0≤fl):VS ks rs l fl (ZcE ks rs l wn fl vs).1:=by
 unfold ZcE
 split
 ·exact ZpH hf _ _ _ (Zic ks rs l hf)
 ·exact Zic ks rs l hf
theorem ZkZ(ms ks rs l:List AV)(wn fl:Int)(vs:List AV):Zao Tryz.prog 3 [.agg (.gen [.list (.big .str ms), .list (.big (.agg [.str, .int .i64]) ks), .list (.big (.agg [.str, .int .i64, .int .i64, .int .i64, .int .i64]) rs), .list (.big (.agg [.int .i64, .int .i64, .int .i64]) l), .int .i64 wn, .int .i64 fl]), .list (.big (.agg [.int .i64, .int .i64]) vs)] (.bool true) none:=
 start (ZzH ms ks rs l wn fl vs) fun C hC=>tgo hC ZFI ZHh (by
  unfold ZGT
  by_cases hs:Zih ms ks rs l=true
  ·have hs':=hs
   unfold Zih at hs'
   simp only[Bool.and_eq_true,decide_eq_true_eq]at hs'
   obtain⟨h1,h2,h3,h4⟩:=ZpD hs'.1
   have g1:ms.length≤1000000:=by omega
   have g2:ks.length≤1000000:=by omega
   have g3:rs.length≤1000000:=by omega
   have g4:l.length≤1000000:=by omega
   by_cases h0:upE ms ks rs l wn fl=0
   ·obtain⟨hf,_,hfl⟩:=ZdP h0
    have hq:Za2 ms ks rs l wn fl vs=ZcE ks rs l wn fl vs:=by unfold Za2;rw[if_pos h0]
    have hv:=Zxq (ks:=ks) (rs:=rs) (l:=l) (wn:=wn) (vs:=vs) (show 0≤fl by omega)
    rw[hq]
    generalize ZcE ks rs l wn fl vs=r at*
    obtain⟨⟨t,mo,dn,ha,ba,to,dw,up⟩,i,e⟩:=r
    have hl:=hv.len
    have g5:dn.length≤1000000:=by simp only at hl;omega
    have g6:dw.length≤1000000:=by simp only at hl;omega
    have g7:up.length≤1000000:=by simp only at hl;omega
    by_cases h5:(60:Int)<vs.length<;>by_cases h6:(202:Int)<vs.length<;>by_cases h7:(vs.length:Int)≤200<;>simp[hs,h1,g1,g2,g3,g4,g5,g6,g7,h0,h5,h6,h7,ZhO,ZcG ZiZ]<;>omega
   ·have hq:Za2 ms ks rs l wn fl vs=(st0,0,upE ms ks rs l wn fl):=by unfold Za2;rw[if_neg h0]
    rw[hq]
    by_cases h5:(60:Int)<vs.length<;>by_cases h6:(202:Int)<vs.length<;>by_cases h7:(vs.length:Int)≤200<;>simp[hs,h1,g1,g2,g3,g4,h0,h5,h6,h7,st0,ZhO,ZcG ZiZ]<;>omega
  ·simp[hs])
end Go.Proofs.YtkeoeooghhjibaaGreatDoor
