/- Contracts as a list. No condition. -/
import Derived.Test.YtkeoeooghhjibaaGreatDoorTi
import Derived.KernelRfl
namespace Go.Proofs.YtkeoeooghhjibaaGreatDoor
theorem ZrH(ms ks rs:List AV)(h:ZaA ms ks rs=true):Zao Tryz.prog 65 [.agg (.gen [.list (.big .str ms), .list (.big (.agg [.str, .int .i64]) ks), .list (.big (.agg [.str, .int .i64, .int .i64, .int .i64, .int .i64]) rs)])] (.int .i64 (ZaL ms ks rs)) none:=
 start (Zuu ms ks rs) fun C hC=>tgo hC Zz5 ZDD (by simp[ZBj,h])
def pI:AV→Int
 | .tup [.int _ i,_]=>i
 |_=>0
def pE:AV→Int
 | .tup [_, .int _ e]=>e
 |_=>0
def isP(v:AV):Prop:=∃i e,v=Zk4 i e
theorem isP.eq{v:AV}(h:isP v):v=Zk4 (pI v) (pE v):=by
 obtain⟨i,e,rfl⟩:=h
 rfl
theorem ZjE{f:Nat→Int} :∀m k,isP (Zfd f m k)
 |0,_=>⟨_,_,rfl⟩
 |m+1,k=>by
  unfold Zfd
  split
  ·exact ZjE m (k+1)
  ·exact⟨_,_,rfl⟩
theorem ZrG(e n:Int)(l:List AV):isP (ZeI e n l):=by
 unfold ZeI
 split
 ·exact ZjE _ _
 ·exact⟨_,_,rfl⟩
def Zk7(e n:Int)(l:List AV):Int:=pI (ZeI e n l)
def ZcY(e n:Int)(l:List AV):Int:=pE (ZeI e n l)
theorem ZoP(e n:Int)(l:List AV):ZeI e n l=.tup [.int .i64 (Zk7 e n l), .int .i64 (ZcY e n l)]:=(ZrG e n l).eq
theorem ZlQ{e n:Int}{l:List AV}(h:e≠0):Zk7 e n l=0∧ZcY e n l=e:=by
 have:Zgk e l=e:=by simp[Zgk,Zai,h]
 simp[Zk7,ZcY,ZeI,this,h,Zk4,pI,pE]
theorem Zo5(ms ks rs l:List AV)(hs:ZaA ms ks rs=true∧l.length≤1000000):Zao Tryz.prog 71 [.agg (.gen [.list (.big .str ms), .list (.big (.agg [.str, .int .i64]) ks), .list (.big (.agg [.str, .int .i64, .int .i64, .int .i64, .int .i64]) rs)]), .list (.big (.agg [.int .i64, .int .i64, .int .i64]) l)] (.tup [.int .i64 (Zk7 (ZaL ms ks rs) ks.length l), .int .i64 (ZcY (ZaL ms ks rs) ks.length l)]) none:=by
 rw[←ZoP]
 exact Zrn ms ks rs l hs.1 hs.2
theorem Zn5(ms ks rs l:List AV)(hs:ks.length≤1000000∧l.length≤1000000):Zao Tryz.prog 76 [.agg (.gen [.list (.big .str ms), .list (.big (.agg [.str, .int .i64]) ks), .list (.big (.agg [.str, .int .i64, .int .i64, .int .i64, .int .i64]) rs)]), .list (.big (.agg [.int .i64, .int .i64, .int .i64]) l)] (.tup [.int .i64 (Zk7 0 ks.length l), .int .i64 (ZcY 0 ks.length l)]) none:=by
 rw[←ZoP]
 exact Zpu ms ks rs l hs.1 hs.2
def k65:Ctr:=⟨65,0,fun _ a=>match a with |[.agg (.gen [.list (.big .str ms), .list (.big (.agg [.str, .int .i64]) ks), .list (.big (.agg [.str, .int .i64, .int .i64, .int .i64, .int .i64]) rs)])]=>some (decide (ZaA ms ks rs=true), .int .i64 (ZaL ms ks rs),none) |_=>none⟩
theorem ZCJ:k65.OK Tryz.prog:=fun pa args r fr h=>by
 simp only[k65]at h
 split at h
 ·simp only[Option.some.injEq,Prod.mk.injEq,decide_eq_true_eq]at h
  obtain⟨h0,rfl,rfl⟩:=h
  exact ZrH _ _ _ h0
 ·cases h
def k71:Ctr:=⟨71,0,fun _ a=>match a with |[.agg (.gen [.list (.big .str ms), .list (.big (.agg [.str, .int .i64]) ks), .list (.big (.agg [.str, .int .i64, .int .i64, .int .i64, .int .i64]) rs)]), .list (.big (.agg [.int .i64, .int .i64, .int .i64]) l)]=>some (decide (ZaA ms ks rs=true∧l.length≤1000000), .tup [.int .i64 (Zk7 (ZaL ms ks rs) ks.length l), .int .i64 (ZcY (ZaL ms ks rs) ks.length l)],none) |_=>none⟩
theorem ZBn:k71.OK Tryz.prog:=fun pa args r fr h=>by
 simp only[k71]at h
 split at h
 ·simp only[Option.some.injEq,Prod.mk.injEq,decide_eq_true_eq]at h
  obtain⟨h0,rfl,rfl⟩:=h
  exact Zo5 _ _ _ _ h0
 ·cases h
def k76:Ctr:=⟨76,0,fun _ a=>match a with |[.agg (.gen [.list (.big .str _), .list (.big (.agg [.str, .int .i64]) ks), .list (.big (.agg [.str, .int .i64, .int .i64, .int .i64, .int .i64]) _)]), .list (.big (.agg [.int .i64, .int .i64, .int .i64]) l)]=>some (decide (ks.length≤1000000∧l.length≤1000000), .tup [.int .i64 (Zk7 0 ks.length l), .int .i64 (ZcY 0 ks.length l)],none) |_=>none⟩
theorem ZCg:k76.OK Tryz.prog:=fun pa args r fr h=>by
 simp only[k76]at h
 split at h
 ·simp only[Option.some.injEq,Prod.mk.injEq,decide_eq_true_eq]at h
  obtain⟨h0,rfl,rfl⟩:=h
  exact Zn5 _ _ _ _ h0
 ·cases h
def k13:Ctr:=⟨13,0,fun _ a=>match a with |[]=>some (true, .bool true,none) |_=>none⟩
theorem ZAz:k13.OK Tryz.prog:=fun pa args r fr h=>by
 simp only[k13]at h
 split at h
 ·cases h
  exact awake_ok
 ·cases h
def B8:List Ctr:=[k65,k71,k76,k13]++B7
theorem Zcb:ZaD Tryz.prog B8:=⟨ZCJ,⟨ZBn,⟨ZCg,⟨ZAz,Zz5⟩⟩⟩⟩
end Go.Proofs.YtkeoeooghhjibaaGreatDoor
/- Paths of functions, printed by the explorer (Gx). No condition. -/
namespace Go.Proofs.YtkeoeooghhjibaaGreatDoor
set_option maxRecDepth 100000
set_option linter.unusedVariables false
def Zya(ms ks rs l:List AV):AFrame:={ fn:=28,N:=20,env:=[(0,AV.agg (Row.gen [.list (Row.big .str ms), .list (Row.big (.agg [.str, .int .i64]) ks), .list (Row.big (.agg [.str, .int .i64, .int .i64, .int .i64, .int .i64]) rs)])),(1,AV.list (Row.big (.agg [.int .i64, .int .i64, .int .i64]) l))],todo:=[.code a28.code],defs:=[],rnd:=none,ret:=false,res:=[ARes.tmp 4] }
def ZHP(ms ks rs l:List AV):List AFrame:=[(Zya ms ks rs l)]
theorem Zvn(ms ks rs l:List AV):Zar tab 28 [AV.agg (Row.gen [.list (Row.big .str ms), .list (Row.big (.agg [.str, .int .i64]) ks), .list (Row.big (.agg [.str, .int .i64, .int .i64, .int .i64, .int .i64]) rs)]),AV.list (Row.big (.agg [.int .i64, .int .i64, .int .i64]) l)]=some (Zya ms ks rs l):=rfl
def ZCi(A:Ar)(K:KT)(F:FT)(ms ks rs l:List AV):Prop:=rB [decide (ZaA ms ks rs=true)] (bB (A.not (A.eq (ZaL ms ks rs) 0)) (F (AV.int .i64 (ZaL ms ks rs)) (none)) (rB [decide (List.length ks≤1000000∧List.length l≤1000000)] (F (AV.int .i64 (ZcY 0 (↑(List.length ks)) l)) (none))))
theorem ZDX{A:Ar}{K:KT}{F:FT}{M:MT}{ms ks rs l:List AV} :ZaH A tab B8 28 K F M (.run 17 (.tf (.run 6 (.fn)) (.run 19 (.fn)))) (ZHP ms ks rs l) []=ZCi A K F ms ks rs l:=by kernel_rfl
def ZAi(ms ks rs l:List AV)(wn fl:Int):AFrame:={ fn:=19,N:=22,env:=[(0,AV.agg (Row.gen [.list (Row.big .str ms), .list (Row.big (.agg [.str, .int .i64]) ks), .list (Row.big (.agg [.str, .int .i64, .int .i64, .int .i64, .int .i64]) rs), .list (Row.big (.agg [.int .i64, .int .i64, .int .i64]) l), .int .i64 wn, .int .i64 fl]))],todo:=[.code a19.code],defs:=[],rnd:=none,ret:=false,res:=[ARes.tmp 2] }
def ZIf(ms ks rs l:List AV)(wn fl:Int):List AFrame:=[(ZAi ms ks rs l wn fl)]
theorem ZtG(ms ks rs l:List AV)(wn fl:Int):Zar tab 19 [AV.agg (Row.gen [.list (Row.big .str ms), .list (Row.big (.agg [.str, .int .i64]) ks), .list (Row.big (.agg [.str, .int .i64, .int .i64, .int .i64, .int .i64]) rs), .list (Row.big (.agg [.int .i64, .int .i64, .int .i64]) l), .int .i64 wn, .int .i64 fl])]=some (ZAi ms ks rs l wn fl):=rfl
def Zvp(A:Ar)(K:KT)(F:FT)(ms ks rs l:List AV)(wn fl:Int):Prop:=rB [decide (ZaA ms ks rs=true)] (bB (A.not (A.eq (ZaL ms ks rs) 0)) (rB [A.not (A.eq (ZaL ms ks rs) 0)] (F (AV.int .i64 (ZaL ms ks rs)) (none))) (rB [decide (List.length ks≤1000000∧List.length l≤1000000)] (bB (A.not (A.eq (ZcY 0 (↑(List.length ks)) l) 0)) (F (AV.int .i64 (ZcY 0 (↑(List.length ks)) l)) (none)) (bB (A.not (Zab wn 1 6)) (F (AV.int .i64 2) (none)) (bB (A.not (Zab fl 1 6)) (F (AV.int .i64 2) (none)) (F (AV.int .i64 0) (none)))))))
theorem ZEx{A:Ar}{K:KT}{F:FT}{M:MT}{ms ks rs l:List AV}{wn fl:Int} :ZaH A tab B8 19 K F M (.run 30 (.tf (.run 14 (.ty (.run 6 (.fn)))) (.run 27 (.tf (.run 6 (.fn)) (.run 9 (.tf (.ty (.ty (.ty (.ty (.run 2 (.ty (.run 5 (.fn)))))))) (.fy (.fy (.fy (.fy (.run 2 (.tf (.run 5 (.fn)) (.run 6 (.fn)))))))))))))) (ZIf ms ks rs l wn fl) []=Zvp A K F ms ks rs l wn fl:=by kernel_rfl
def Zyb(ms ks rs l:List AV)(wn fl:Int):AFrame:={ fn:=36,N:=25,env:=[(0,AV.agg (Row.gen [.list (Row.big .str ms), .list (Row.big (.agg [.str, .int .i64]) ks), .list (Row.big (.agg [.str, .int .i64, .int .i64, .int .i64, .int .i64]) rs), .list (Row.big (.agg [.int .i64, .int .i64, .int .i64]) l), .int .i64 wn, .int .i64 fl]))],todo:=[.code a36.code],defs:=[],rnd:=none,ret:=false,res:=[ARes.tmp 2] }
def ZH3(ms ks rs l:List AV)(wn fl:Int):List AFrame:=[(Zyb ms ks rs l wn fl)]
theorem ZuF(ms ks rs l:List AV)(wn fl:Int):Zar tab 36 [AV.agg (Row.gen [.list (Row.big .str ms), .list (Row.big (.agg [.str, .int .i64]) ks), .list (Row.big (.agg [.str, .int .i64, .int .i64, .int .i64, .int .i64]) rs), .list (Row.big (.agg [.int .i64, .int .i64, .int .i64]) l), .int .i64 wn, .int .i64 fl])]=some (Zyb ms ks rs l wn fl):=rfl
def ZBA(A:Ar)(K:KT)(F:FT)(ms ks rs l:List AV)(wn fl:Int):Prop:=rB [decide (ZaA ms ks rs=true∧List.length l≤1000000)] (bB (Zab wn 1 6) (rB [decide (List.length [ZcY (ZaL ms ks rs) (↑(List.length ks)) l,Zaa (Zab fl 1 6) 2]≤1000000),List.all [AV.int .i64 (ZcY (ZaL ms ks rs) (↑(List.length ks)) l),AV.int .i64 (Zaa (Zab fl 1 6) 2)] fun x=>AV.bx x&&Nat.beq (Zae A x) 1] (F (AV.int .i64 (Zai [ZcY (ZaL ms ks rs) (↑(List.length ks)) l,Zaa (Zab fl 1 6) 2])) (none))) (rB [decide (List.length [ZcY (ZaL ms ks rs) (↑(List.length ks)) l,2]≤1000000),List.all [AV.int .i64 (ZcY (ZaL ms ks rs) (↑(List.length ks)) l),AV.int .i64 2] fun x=>AV.bx x&&Nat.beq (Zae A x) 1] (F (AV.int .i64 (Zai [ZcY (ZaL ms ks rs) (↑(List.length ks)) l,2])) (none))))
theorem ZEP{A:Ar}{K:KT}{F:FT}{M:MT}{ms ks rs l:List AV}{wn fl:Int} :ZaH A tab B8 36 K F M (.run 26 (.tf (.ty (.ty (.ty (.run 7 (.fn))))) (.fy (.fy (.fy (.run 7 (.fn))))))) (ZH3 ms ks rs l wn fl) []=ZBA A K F ms ks rs l wn fl:=by kernel_rfl
def Zyd(ek en:Int):AFrame:={ fn:=38,N:=35,env:=[(0,AV.agg (Row.gen [.int .i64 ek, .int .i64 en]))],todo:=[.code a38.code],defs:=[],rnd:=none,ret:=false,res:=[ARes.tmp 2] }
def ZG0(ek en:Int):List AFrame:=[(Zyd ek en)]
theorem Zwd(ek en:Int):Zar tab 38 [AV.agg (Row.gen [.int .i64 ek, .int .i64 en])]=some (Zyd ek en):=rfl
def ZmW(A:Ar)(K:KT)(F:FT)(ek en:Int):Prop:=bB (A.not (Zab ek 0 8)) (F (AV.int .i64 15) (none)) (bB (A.eq ek 0) (bB (A.eq ek 1) (rB [A.eq ek 0] (bB (A.not (Zab en 1 11)) (F (AV.int .i64 2) (none)) (rB [A.eq ek 0] (rB [!A.not true] (F (AV.int .i64 0) (none)))))) (rB [A.eq ek 0] (bB (A.not (Zab en 1 1000000000000)) (F (AV.int .i64 2) (none)) (rB [A.eq ek 0] (rB [!A.not true] (F (AV.int .i64 0) (none))))))) (bB (A.eq ek 1) (rB [!A.eq ek 0] (rB [A.eq ek 1] (bB (A.not (Zab en 0 11)) (F (AV.int .i64 2) (none)) (rB [!A.eq ek 0] (rB [A.eq ek 1] (rB [!A.not true] (F (AV.int .i64 0) (none)))))))) (rB [!A.eq ek 0] (rB [!A.eq ek 1] (bB (Zab ek 2 6) (bB (A.not (Zab en 0 5)) (F (AV.int .i64 2) (none)) (rB [!A.eq ek 0] (rB [!A.eq ek 1] (rB [!A.not (Zab ek 2 6)] (F (AV.int .i64 0) (none)))))) (rB [!A.eq ek 0] (rB [!A.eq ek 1] (rB [A.not (Zab ek 2 6)] (bB (A.not (A.eq en 0)) (F (AV.int .i64 3) (none)) (F (AV.int .i64 0) (none)))))))))))
theorem ZFa{A:Ar}{K:KT}{F:FT}{M:MT}{ek en:Int} :ZaH A tab B8 38 K F M (.run 13 (.tf (.run 5 (.fn)) (.run 13 (.tf (.run 11 (.tf (.run 18 (.ty (.ty (.ty (.run 1 (.ty (.ty (.ty (.run 6 (.ty (.ty (.ty (.ty (.ty (.ty (.ty (.run 2 (.tf (.run 5 (.fn)) (.run 16 (.ty (.ty (.ty (.run 1 (.ty (.ty (.ty (.run 7 (.fy (.fy (.fy (.fy (.run 2 (.fy (.run 6 (.fn))))))))))))))))))))))))))))))))))) (.run 16 (.ty (.ty (.ty (.run 1 (.ty (.ty (.ty (.run 6 (.ty (.ty (.ty (.ty (.ty (.ty (.ty (.run 2 (.tf (.run 5 (.fn)) (.run 16 (.ty (.ty (.ty (.run 1 (.ty (.ty (.ty (.run 7 (.fy (.fy (.fy (.fy (.run 2 (.fy (.run 6 (.fn))))))))))))))))))))))))))))))))))))) (.run 8 (.tf (.run 18 (.fy (.fy (.fy (.run 1 (.ty (.ty (.ty (.run 6 (.ty (.ty (.ty (.ty (.ty (.ty (.ty (.run 2 (.tf (.run 5 (.fn)) (.run 16 (.fy (.fy (.fy (.run 1 (.ty (.ty (.ty (.run 7 (.fy (.fy (.fy (.fy (.run 2 (.fy (.run 6 (.fn))))))))))))))))))))))))))))))))))) (.run 16 (.fy (.fy (.fy (.run 1 (.fy (.fy (.run 12 (.fy (.run 6 (.tf (.ty (.ty (.ty (.ty (.ty (.ty (.run 2 (.tf (.run 5 (.fn)) (.run 16 (.fy (.fy (.fy (.run 1 (.fy (.fy (.run 12 (.fy (.run 7 (.fy (.fy (.fy (.fy (.run 2 (.fy (.run 6 (.fn)))))))))))))))))))))))))) (.fy (.fy (.fy (.fy (.fy (.fy (.run 2 (.fy (.run 16 (.fy (.fy (.fy (.run 1 (.fy (.fy (.run 12 (.fy (.run 7 (.ty (.ty (.ty (.ty (.run 2 (.tf (.run 5 (.fn)) (.run 6 (.fn))))))))))))))))))))))))))))))))))))))))))) (ZG0 ek en) []=ZmW A K F ek en:=by kernel_rfl
def ZxS(n:Int):AFrame:={ fn:=84,N:=13,env:=[(0,AV.int .i64 n)],todo:=[.code a84.code],defs:=[],rnd:=none,ret:=false,res:=[ARes.tmp 2] }
def ZHU(n:Int):List AFrame:=[(ZxS n)]
theorem Zvj(n:Int):Zar tab 84 [AV.int .i64 n]=some (ZxS n):=rfl
def ZAE(A:Ar)(K:KT)(F:FT)(n:Int):Prop:=bB (A.eq n 0) (F (AV.bool true) (none)) (bB (A.eq n 1) (F (AV.bool true) (none)) (F (AV.bool (Zab n 2 6)) (none)))
theorem ZEY{A:Ar}{K:KT}{F:FT}{M:MT}{n:Int} :ZaH A tab B8 84 K F M (.run 9 (.tf (.ty (.ty (.run 1 (.ty (.ty (.ty (.run 4 (.fn)))))))) (.fy (.fy (.run 1 (.tf (.ty (.ty (.run 4 (.fn)))) (.fy (.run 12 (.fy (.run 4 (.fn))))))))))) (ZHU n) []=ZAE A K F n:=by kernel_rfl
def Zze(n:Int):AFrame:={ fn:=97,N:=5,env:=[(0,AV.int .i64 n)],todo:=[.code a97.code],defs:=[],rnd:=none,ret:=false,res:=[ARes.tmp 2] }
def ZH4(n:Int):List AFrame:=[(Zze n)]
theorem ZtH(n:Int):Zar tab 97 [AV.int .i64 n]=some (Zze n):=rfl
def ZAX(A:Ar)(K:KT)(F:FT)(n:Int):Prop:=F (AV.bool (Zab n 2 6)) (none)
theorem ZDP{A:Ar}{K:KT}{F:FT}{M:MT}{n:Int} :ZaH A tab B8 97 K F M (.run 11 (.fn)) (ZH4 n) []=ZAX A K F n:=by kernel_rfl
def Zyu(ms ks rs l:List AV)(wn fl:Int):AFrame:={ fn:=14,N:=12,env:=[(0,AV.agg (Row.gen [.list (Row.big .str ms), .list (Row.big (.agg [.str, .int .i64]) ks), .list (Row.big (.agg [.str, .int .i64, .int .i64, .int .i64, .int .i64]) rs), .list (Row.big (.agg [.int .i64, .int .i64, .int .i64]) l), .int .i64 wn, .int .i64 fl]))],todo:=[.code a14.code],defs:=[],rnd:=none,ret:=false,res:=[ARes.tmp 2] }
def ZIn(ms ks rs l:List AV)(wn fl:Int):List AFrame:=[(Zyu ms ks rs l wn fl)]
theorem ZuK(ms ks rs l:List AV)(wn fl:Int):Zar tab 14 [AV.agg (Row.gen [.list (Row.big .str ms), .list (Row.big (.agg [.str, .int .i64]) ks), .list (Row.big (.agg [.str, .int .i64, .int .i64, .int .i64, .int .i64]) rs), .list (Row.big (.agg [.int .i64, .int .i64, .int .i64]) l), .int .i64 wn, .int .i64 fl])]=some (Zyu ms ks rs l wn fl):=rfl
def ZBs(A:Ar)(K:KT)(F:FT)(ms ks rs l:List AV)(wn fl:Int):Prop:=bB (Zqb ms ks rs) (F (AV.bool (A.le (A.int (A.lenA l)) 14)) (none)) (F (AV.bool false) (none))
theorem ZEO{A:Ar}{K:KT}{F:FT}{M:MT}{ms ks rs l:List AV}{wn fl:Int} :ZaH A tab B8 14 K F M (.run 11 (.tf (.ty (.ty (.ty (.ty (.run 4 (.fn)))))) (.fy (.fy (.fy (.fy (.run 4 (.fn)))))))) (ZIn ms ks rs l wn fl) []=ZBs A K F ms ks rs l wn fl:=by kernel_rfl
def ZA6(ms ks rs l:List AV)(wn fl:Int):AFrame:={ fn:=16,N:=12,env:=[(0,AV.agg (Row.gen [.list (Row.big .str ms), .list (Row.big (.agg [.str, .int .i64]) ks), .list (Row.big (.agg [.str, .int .i64, .int .i64, .int .i64, .int .i64]) rs), .list (Row.big (.agg [.int .i64, .int .i64, .int .i64]) l), .int .i64 wn, .int .i64 fl]))],todo:=[.code a16.code],defs:=[],rnd:=none,ret:=false,res:=[ARes.cell 2 true 6] }
def ZH8(ms ks rs l:List AV)(wn fl:Int):List AFrame:=[(ZA6 ms ks rs l wn fl)]
theorem ZwO(ms ks rs l:List AV)(wn fl:Int):Zar tab 16 [AV.agg (Row.gen [.list (Row.big .str ms), .list (Row.big (.agg [.str, .int .i64]) ks), .list (Row.big (.agg [.str, .int .i64, .int .i64, .int .i64, .int .i64]) rs), .list (Row.big (.agg [.int .i64, .int .i64, .int .i64]) l), .int .i64 wn, .int .i64 fl])]=some (ZA6 ms ks rs l wn fl):=rfl
def Zyw(A:Ar)(K:KT)(F:FT)(ms ks rs l:List AV)(wn fl:Int):Prop:=rB [decide (List.length l≤1000000),decide (List.length ms≤1000000∧List.length ks≤1000000∧List.length rs≤1000000)] (F (AV.agg (Row.gen [.list (Row.big .str ms), .list (Row.big (.agg [.str, .int .i64]) ks), .list (Row.big (.agg [.str, .int .i64, .int .i64, .int .i64, .int .i64]) rs), .list (Row.big (.agg [.int .i64, .int .i64, .int .i64]) l), .int .i64 wn, .int .i64 fl])) (none))
theorem ZEt{A:Ar}{K:KT}{F:FT}{M:MT}{ms ks rs l:List AV}{wn fl:Int} :ZaH A tab B8 16 K F M (.run 14 (.fn)) (ZH8 ms ks rs l wn fl) []=Zyw A K F ms ks rs l wn fl:=by kernel_rfl
def ZBJ(at0 mo:Int)(dn:List AV)(ha:Bool)(ba:Int)(to:Bool)(dw:List Int)(up:List AV):AFrame:={ fn:=35,N:=18,env:=[(0,AV.agg (Row.gen [.int .i64 at0, .int .i64 mo, .list (Row.big (.agg [.int .i64, .int .i64]) dn), .bool ha, .int .i64 ba, .bool to, .list (.ints .i64 dw), .list (Row.big (.agg [.int .i64, .bool]) up)]))],todo:=[.code a35.code],defs:=[],rnd:=none,ret:=false,res:=[ARes.cell 2 true 8] }
def ZJH(at0 mo:Int)(dn:List AV)(ha:Bool)(ba:Int)(to:Bool)(dw:List Int)(up:List AV):List AFrame:=[(ZBJ at0 mo dn ha ba to dw up)]
theorem ZvC(at0 mo:Int)(dn:List AV)(ha:Bool)(ba:Int)(to:Bool)(dw:List Int)(up:List AV):Zar tab 35 [AV.agg (Row.gen [.int .i64 at0, .int .i64 mo, .list (Row.big (.agg [.int .i64, .int .i64]) dn), .bool ha, .int .i64 ba, .bool to, .list (.ints .i64 dw), .list (Row.big (.agg [.int .i64, .bool]) up)])]=some (ZBJ at0 mo dn ha ba to dw up):=rfl
def ZxX(A:Ar)(K:KT)(F:FT)(at0 mo:Int)(dn:List AV)(ha:Bool)(ba:Int)(to:Bool)(dw:List Int)(up:List AV):Prop:=rB [Nat.ble (0+A.lenA up) 4294967296,List.all [] fun x=>AV.bx x&&Nat.beq (Zae A x) 2,Nat.ble (0+A.len dw) 4294967296,List.all [] fun x=>AV.bx x&&Nat.beq (Zae A x) 1,Nat.ble (0+A.lenA dn) 4294967296,List.all [] fun x=>AV.bx x&&Nat.beq (Zae A x) 2] (F (AV.agg (Row.gen [.int .i64 at0, .int .i64 mo, .list (Row.big (.agg [.int .i64, .int .i64]) dn), .bool ha, .int .i64 ba, .bool to, .list (.ints .i64 dw), .list (Row.big (.agg [.int .i64, .bool]) up)])) (none))
theorem ZFC{A:Ar}{K:KT}{F:FT}{M:MT}{at0 mo:Int}{dn:List AV}{ha:Bool}{ba:Int}{to:Bool}{dw:List Int}{up:List AV} :ZaH A tab B8 35 K F M (.run 50 (.fn)) (ZJH at0 mo dn ha ba to dw up) []=ZxX A K F at0 mo dn ha ba to dw up:=by kernel_rfl
def ZCm(xs ys:List Int):AFrame:={ fn:=29,N:=26,env:=[(0,AV.list (.ints .i64 xs)),(1,AV.list (.ints .i64 ys))],todo:=[.code a29.code],defs:=[],rnd:=none,ret:=false,res:=[ARes.tmp 4] }
def ZJt(xs ys:List Int):List AFrame:=[(ZCm xs ys)]
theorem Zud(xs ys:List Int):Zar tab 29 [AV.list (.ints .i64 xs),AV.list (.ints .i64 ys)]=some (ZCm xs ys):=rfl
def Zhy(xs ys:List Int)(n0:Int):List AFrame:=[{ fn:=29,N:=26,env:=[(0,AV.list (.ints .i64 xs)),(1,AV.list (.ints .i64 ys)),(5,AV.int .i64 n0)],todo:=.code (ACode.gh [] ZzJ)::ZEH,defs:=[],rnd:=none,ret:=false,res:=[ARes.tmp 4] }]
def Zfk(xs ys:List Int)(n0:Int):Zac:=[]
abbrev ZhT(xs ys:List Int)(n0:Int):List AFrame×Zac:=(Zhy xs ys n0,Zfk xs ys n0)
def Zxi(A:Ar)(K:KT)(F:FT)(xs ys:List Int):Prop:=bB (A.not (A.eq (A.int (A.len xs)) (A.int (A.len ys)))) (F (AV.bool false) (none)) (K (ZhT (xs) (ys) (0)))
theorem ZE6{A:Ar}{K:KT}{F:FT}{M:MT}{xs ys:List Int} :ZaH A tab B8 29 K F M (.run 13 (.tf (.run 5 (.fn)) (.run 9 (.hd)))) (ZJt xs ys) []=Zxi A K F xs ys:=by kernel_rfl
def ZdT(A:Ar)(K:KT)(F:FT)(xs ys:List Int)(n0:Int):Prop:=bB (A.lt n0 (A.int (A.len xs))) (rB [Zag (Zag (A.le 0 n0) (Nat.blt (A.nat n0) (A.len ys))) true,Zag (Zag (A.le 0 n0) (Nat.blt (A.nat n0) (A.len xs))) true] (bB (A.not (A.eq (A.nth xs (A.nat n0)) (A.nth ys (A.nat n0)))) (F (AV.bool false) (none)) (rB [A.inR .i64 (A.add n0 1)] (K (ZhT (xs) (ys) (A.add n0 1)))))) (F (AV.bool true) (none))
theorem ZiC{A:Ar}{K:KT}{F:FT}{M:MT}{xs ys:List Int}{n0:Int} :ZaH A tab B8 29 K F M (.run 9 (.tf (.run 6 (.tf (.run 5 (.fn)) (.run 9 (.hd)))) (.run 6 (.fn)))) (Zhy xs ys n0) (Zfk xs ys n0)=ZdT A K F xs ys n0:=by kernel_rfl
def ZzI(xs ys:List AV):AFrame:={ fn:=22,N:=26,env:=[(0,AV.list (Row.big (.agg [.int .i64, .int .i64]) xs)),(1,AV.list (Row.big (.agg [.int .i64, .int .i64]) ys))],todo:=[.code a22.code],defs:=[],rnd:=none,ret:=false,res:=[ARes.tmp 4] }
def ZI3(xs ys:List AV):List AFrame:=[(ZzI xs ys)]
theorem Zvs(xs ys:List AV):Zar tab 22 [AV.list (Row.big (.agg [.int .i64, .int .i64]) xs),AV.list (Row.big (.agg [.int .i64, .int .i64]) ys)]=some (ZzI xs ys):=rfl
def Zht(xs ys:List AV)(n0:Int):List AFrame:=[{ fn:=22,N:=26,env:=[(0,AV.list (Row.big (.agg [.int .i64, .int .i64]) xs)),(1,AV.list (Row.big (.agg [.int .i64, .int .i64]) ys)),(5,AV.int .i64 n0)],todo:=.code (ACode.gh [] ZyV)::ZEk,defs:=[],rnd:=none,ret:=false,res:=[ARes.tmp 4] }]
def Zfw(xs ys:List AV)(n0:Int):Zac:=[]
abbrev Zif(xs ys:List AV)(n0:Int):List AFrame×Zac:=(Zht xs ys n0,Zfw xs ys n0)
def Zv8(A:Ar)(K:KT)(F:FT)(xs ys:List AV):Prop:=bB (A.not (A.eq (A.int (A.lenA xs)) (A.int (A.lenA ys)))) (F (AV.bool false) (none)) (K (Zif (xs) (ys) (0)))
theorem ZFR{A:Ar}{K:KT}{F:FT}{M:MT}{xs ys:List AV} :ZaH A tab B8 22 K F M (.run 13 (.tf (.run 5 (.fn)) (.run 9 (.hd)))) (ZI3 xs ys) []=Zv8 A K F xs ys:=by kernel_rfl
def Zd3(A:Ar)(K:KT)(F:FT)(xs ys:List AV)(n0:Int):Prop:=bB (A.lt n0 (A.int (A.lenA xs))) (rB [Zag (Zag (A.le 0 n0) (Nat.blt (A.nat n0) (A.lenA ys))) true,Zag (Zag (A.le 0 n0) (Nat.blt (A.nat n0) (A.lenA xs))) true] (bB (A.not (Zag (A.eq ((A.nthA xs (A.nat n0)).cellAt 0).toI ((A.nthA ys (A.nat n0)).cellAt 0).toI) (A.eq ((A.nthA xs (A.nat n0)).cellAt 1).toI ((A.nthA ys (A.nat n0)).cellAt 1).toI))) (F (AV.bool false) (none)) (rB [A.inR .i64 (A.add n0 1)] (K (Zif (xs) (ys) (A.add n0 1)))))) (F (AV.bool true) (none))
theorem ZiG{A:Ar}{K:KT}{F:FT}{M:MT}{xs ys:List AV}{n0:Int} :ZaH A tab B8 22 K F M (.run 9 (.tf (.run 6 (.tf (.run 5 (.fn)) (.run 9 (.hd)))) (.run 6 (.fn)))) (Zht xs ys n0) (Zfw xs ys n0)=Zd3 A K F xs ys n0:=by kernel_rfl
def ZAc(ms ks rs:List AV):AFrame:={ fn:=77,N:=19,env:=[(0,AV.agg (Row.gen [.list (Row.big .str ms), .list (Row.big (.agg [.str, .int .i64]) ks), .list (Row.big (.agg [.str, .int .i64, .int .i64, .int .i64, .int .i64]) rs)]))],todo:=[.code a77.code],defs:=[],rnd:=none,ret:=false,res:=[ARes.cell 2 true 3] }
def ZHX(ms ks rs:List AV):List AFrame:=[(ZAc ms ks rs)]
theorem Zuf(ms ks rs:List AV):Zar tab 77 [AV.agg (Row.gen [.list (Row.big .str ms), .list (Row.big (.agg [.str, .int .i64]) ks), .list (Row.big (.agg [.str, .int .i64, .int .i64, .int .i64, .int .i64]) rs)])]=some (ZAc ms ks rs):=rfl
def Zkn(ms ks rs:List AV):List AFrame:=[{ fn:=77,N:=19,env:=[(1,AV.ptr 77002 0 0 0),(2,AV.ptr 77003 0 0 0),(3,AV.ptr 77004 0 0 0),(4,AV.int .i64 0)],todo:=.code (ACode.gh [] Zu5)::ZAa,defs:=[],rnd:=none,ret:=false,res:=[ARes.cell 2 true 3] }]
def Zh3(ms ks rs:List AV):Zac:=[(77002,{ base:=0,blks:=[Blk.row 26 3 (Row.gen [AV.agg (Row.gen [AV.list (Row.big .str ms),AV.list (Row.big (.agg [.str, .int .i64]) ks),AV.list (Row.big (.agg [.str, .int .i64, .int .i64, .int .i64, .int .i64]) rs)])])] }),(77003,{ base:=0,blks:=[Blk.row 76 3 (Row.gen [AV.agg (Row.gen [AV.int .i64 0,AV.int .i64 0,AV.nils])])] }),(77004,{ base:=0,blks:=[Blk.row 76 3 (Row.gen [AV.agg (Row.gen [AV.int .i64 0,AV.int .i64 0,AV.nils])])] })]
abbrev Znu(ms ks rs:List AV):List AFrame×Zac:=(Zkn ms ks rs,Zh3 ms ks rs)
def Zg1(ms ks rs:List AV)(n0:Int)(l1:List Int):List AFrame:=[{ fn:=77,N:=19,env:=[(1,AV.ptr 77002 0 0 0),(2,AV.ptr 77003 0 0 0),(3,AV.ptr 77004 0 0 0),(4,AV.int .i64 n0)],todo:=.code (ACode.gh [] Zu5)::ZAa,defs:=[],rnd:=none,ret:=false,res:=[ARes.cell 2 true 3] }]
def Zfo(ms ks rs:List AV)(n0:Int)(l1:List Int):Zac:=[(77002,{ base:=0,blks:=[Blk.row 26 3 (Row.gen [AV.agg (Row.gen [AV.list (Row.big .str ms),AV.list (Row.big (.agg [.str, .int .i64]) ks),AV.list (Row.big (.agg [.str, .int .i64, .int .i64, .int .i64, .int .i64]) rs)])])] }),(77003,{ base:=0,blks:=[Blk.row 76 3 (Row.gen [AV.agg (Row.gen [AV.int .i64 0,AV.int .i64 0,AV.nils])])] }),(77004,{ base:=0,blks:=[Blk.row 76 3 (Row.gen [AV.agg (Row.gen [AV.int .i64 0,AV.int .i64 0,AV.row 77017 0])])] }),(77017,{ base:=0,blks:=[Blk.row 3 1 (.ints .i64 l1)] })]
abbrev ZiB(ms ks rs:List AV)(n0:Int)(l1:List Int):List AFrame×Zac:=(Zg1 ms ks rs n0 l1,Zfo ms ks rs n0 l1)
def ZxR(A:Ar)(K:KT)(F:FT)(ms ks rs:List AV):Prop:=K (Znu (ms) (ks) (rs))
theorem ZEf{A:Ar}{K:KT}{F:FT}{M:MT}{ms ks rs:List AV} :ZaH A tab B8 77 K F M (.run 19 (.hd)) (ZHX ms ks rs) []=ZxR A K F ms ks rs:=by kernel_rfl
def Ze5(A:Ar)(K:KT)(F:FT)(ms ks rs:List AV):Prop:=bB (A.lt 0 (A.int (A.lenA ks))) (rB [A.inR .i64 (A.add 0 1),Zag (Nat.ble (A.len [-1]) 4294967296) (Nat.blt 0 (A.len [-1])),List.all [AV.int .i64 (-1)] fun x=>AV.bx x&&Nat.beq (Zae A x) 1] (K (ZiB (ms) (ks) (rs) (A.add 0 1) ([-1])))) (F (AV.agg (Row.gen [.int .i64 0, .int .i64 0,AV.nils])) (none))
theorem ZnJ{A:Ar}{K:KT}{F:FT}{M:MT}{ms ks rs:List AV} :ZaH A tab B8 77 K F M (.run 10 (.tf (.run 19 (.hd)) (.run 7 (.fn)))) (Zkn ms ks rs) (Zh3 ms ks rs)=Ze5 A K F ms ks rs:=by kernel_rfl
def Ze6(A:Ar)(K:KT)(F:FT)(ms ks rs:List AV)(n0:Int)(l1:List Int):Prop:=bB (A.lt n0 (A.int (A.lenA ks))) (rB [A.inR .i64 (A.add n0 1),Nat.ble (A.len l1+A.len [-1]) 4294967296,List.all [AV.int .i64 (-1)] fun x=>AV.bx x&&Nat.beq (Zae A x) 1] (K (ZiB (ms) (ks) (rs) (A.add n0 1) (A.app l1 [-1])))) (F (AV.agg (Row.gen [.int .i64 0, .int .i64 0, .list (.ints .i64 l1)])) (none))
theorem Ziq{A:Ar}{K:KT}{F:FT}{M:MT}{ms ks rs:List AV}{n0:Int}{l1:List Int} :ZaH A tab B8 77 K F M (.run 10 (.tf (.run 19 (.hd)) (.run 7 (.fn)))) (Zg1 ms ks rs n0 l1) (Zfo ms ks rs n0 l1)=Ze6 A K F ms ks rs n0 l1:=by kernel_rfl
def ZBv(ek en:Int):AFrame:={ fn:=37,N:=29,env:=[(0,AV.agg (Row.gen [.int .i64 ek, .int .i64 en]))],todo:=[.code a37.code],defs:=[],rnd:=none,ret:=false,res:=[ARes.tmp 2] }
def ZI2(ek en:Int):List AFrame:=[(ZBv ek en)]
theorem Zxu(ek en:Int):Zar tab 37 [AV.agg (Row.gen [.int .i64 ek, .int .i64 en])]=some (ZBv ek en):=rfl
def ZgM(A:Ar)(K:KT)(F:FT)(ek en:Int):Prop:=bB (A.not (Zab ek 0 8)) (F (AV.int .i64 15) (none)) (qB [A.eq ek 0] (rB [!A.eq 1000000000000 0] (F (AV.int .i64 (Zaa (Zab en 1 1000000000000) 2)) (none))) (qB [A.eq ek (Int.ofNat 1)] (rB [!A.eq 11 0] (F (AV.int .i64 (Zaa (Zab en 0 11) 2)) (none))) (qB [A.eq ek (Int.ofNat 2)] (rB [!A.eq 5 0] (F (AV.int .i64 (Zaa (Zab en 0 5) 2)) (none))) (qB [A.eq ek (Int.ofNat 3)] (rB [!A.eq 5 0] (F (AV.int .i64 (Zaa (Zab en 0 5) 2)) (none))) (qB [A.eq ek (Int.ofNat 4)] (rB [!A.eq 5 0] (F (AV.int .i64 (Zaa (Zab en 0 5) 2)) (none))) (qB [A.eq ek (Int.ofNat 5)] (rB [!A.eq 5 0] (F (AV.int .i64 (Zaa (Zab en 0 5) 2)) (none))) (qB [A.eq ek (Int.ofNat 6)] (rB [!A.eq 5 0] (F (AV.int .i64 (Zaa (Zab en 0 5) 2)) (none))) (qB [A.eq ek (Int.ofNat 7)] (rB [A.eq 0 0] (F (AV.int .i64 (Zaa (A.eq en 0) 3)) (none))) (rB [A.eq ek (Int.ofNat 8)] (rB [A.eq 0 0] (F (AV.int .i64 (Zaa (A.eq en 0) 3)) (none))))))))))))
theorem ZE9{A:Ar}{K:KT}{F:FT}{M:MT}{ek en:Int} :ZaH A tab B8 37 K F M (.run 40 (.tf (.run 5 (.fn)) (.run 5 (.alt [true] (.run 11 (.fy (.run 15 (.fn)))) (.alt [false,true] (.run 11 (.fy (.run 15 (.fn)))) (.alt [false,false,true] (.run 11 (.fy (.run 15 (.fn)))) (.alt [false,false,false,true] (.run 11 (.fy (.run 15 (.fn)))) (.alt [false,false,false,false,true] (.run 11 (.fy (.run 15 (.fn)))) (.alt [false,false,false,false,false,true] (.run 11 (.fy (.run 15 (.fn)))) (.alt [false,false,false,false,false,false,true] (.run 11 (.fy (.run 15 (.fn)))) (.alt [false,false,false,false,false,false,false,true] (.run 11 (.ty (.run 9 (.fn)))) (.alt [false,false,false,false,false,false,false,false,true] (.run 11 (.ty (.run 9 (.fn)))) (.no))))))))))))) (ZI2 ek en) []=ZgM A K F ek en:=by kernel_rfl
def ZAx(xs:List AV):AFrame:={ fn:=17,N:=6,env:=[(0,AV.list (Row.big (.agg [.int .i64, .int .i64]) xs))],todo:=[.code a17.code],defs:=[],rnd:=none,ret:=false,res:=[ARes.tmp 2] }
def ZHq(xs:List AV):List AFrame:=[(ZAx xs)]
theorem ZtJ(xs:List AV):Zar tab 17 [AV.list (Row.big (.agg [.int .i64, .int .i64]) xs)]=some (ZAx xs):=rfl
def ZA9(A:Ar)(K:KT)(F:FT)(xs:List AV):Prop:=rB [Nat.ble (A.lenA xs) 4294967296] (F (AV.list (Row.big (.agg [.int .i64, .int .i64]) xs)) (none))
theorem ZEd{A:Ar}{K:KT}{F:FT}{M:MT}{xs:List AV} :ZaH A tab B8 17 K F M (.run 12 (.fn)) (ZHq xs) []=ZA9 A K F xs:=by kernel_rfl
def ZBq(xs:List Int):AFrame:={ fn:=81,N:=6,env:=[(0,AV.list (.ints .i64 xs))],todo:=[.code a81.code],defs:=[],rnd:=none,ret:=false,res:=[ARes.tmp 2] }
def ZHs(xs:List Int):List AFrame:=[(ZBq xs)]
theorem Ztk(xs:List Int):Zar tab 81 [AV.list (.ints .i64 xs)]=some (ZBq xs):=rfl
def ZCN(A:Ar)(K:KT)(F:FT)(xs:List Int):Prop:=rB [Nat.ble (0+A.len xs) 4294967296,List.all [] fun x=>AV.bx x&&Nat.beq (Zae A x) 1] (F (AV.row 0 0) (some { e:=3,sz:=1,r:=.ints .i64 xs }))
theorem ZFE{A:Ar}{K:KT}{F:FT}{M:MT}{xs:List Int} :ZaH A tab B8 81 K F M (.run 12 (.fn)) (ZHs xs) []=ZCN A K F xs:=by kernel_rfl
end Go.Proofs.YtkeoeooghhjibaaGreatDoor
/- Contracts as a list. No condition. -/
namespace Go.Proofs.YtkeoeooghhjibaaGreatDoor
theorem ZpD{ms ks rs:List AV}(h:Zqb ms ks rs=true):ZaA ms ks rs=true∧ms.length≤8∧ks.length≤10∧rs.length≤12:=by
 simp only[Zqb,Bool.and_eq_true,decide_eq_true_eq,List.all_eq_true,ZyX,Zn6]at h
 obtain⟨h1,h2,h3,h4⟩:=h
 simp only[ZaA,Bool.and_eq_true,decide_eq_true_eq,List.all_eq_true]
 refine⟨⟨⟨⟨fun x hx=>?_,fun x hx=>?_⟩,fun x hx=>?_⟩,by omega⟩,h1⟩
 ·have:=h2 x hx;omega
 ·have:=h3 x hx;omega
 ·have:=h4 x hx;omega
def Zpg(ms ks rs l:List AV):Int:=ZcY (ZaL ms ks rs) ks.length l
theorem Zmf{ms ks rs:List AV}(h:ZaA ms ks rs=true):ms.length≤1000000∧ks.length≤1000000∧rs.length≤1000000:=by
 simp only[ZaA,Bool.and_eq_true,decide_eq_true_eq]at h
 exact h.2
def upE(ms ks rs l:List AV)(wn fl:Int):Int:=if Zpg ms ks rs l=0 then(if Zab wn 1 6=true∧Zab fl 1 6=true then 0 else 2)else Zpg ms ks rs l
def Zih(ms ks rs l:List AV):Bool:=Zqb ms ks rs&&decide (l.length≤14)
def Zxk(n:Int):Bool:=decide (n=0∨n=1)||Zab n 2 6
def evE(ek en:Int):Int:=if Zab ek 0 8=true then(if ek=0 then Zaa (Zab en 1 1000000000000) 2 else if ek=1 then Zaa (Zab en 0 11) 2 else if Zab ek 2 6=true then Zaa (Zab en 0 5) 2 else Zaa (decide (en=0)) 3)else 15
def eq2(x y:AV):Bool:=decide ((x.cellAt 0).toI=(y.cellAt 0).toI∧(x.cellAt 1).toI=(y.cellAt 1).toI)
def ZbV(e:AV→AV→Bool):List AV→List AV→Bool
 |[],[]=>true
 |x::xs,y::ys=>e x y&&ZbV e xs ys
 |_,_=>false
theorem ZjZ{e:AV→AV→Bool} :∀ {xs ys:List AV},ZbV e xs ys=true→xs.length=ys.length
 |[],[],_=>rfl
 |x::xs,y::ys,h=>by
  simp only[ZbV,Bool.and_eq_true]at h
  simp[ZjZ h.2]
 |[],y::ys,h=>by cases h
 |x::xs,[],h=>by cases h
theorem ZcG{e:AV→AV→Bool}(he:∀x,e x x=true):∀xs:List AV,ZbV e xs xs=true
 |[]=>rfl
 |x::xs=>by simp only[ZbV,he,ZcG he xs,Bool.and_self]
theorem ZiZ(x:AV):eq2 x x=true:=by simp[eq2]
theorem ZqM{xs:List AV}{k:Nat}(h:k<xs.length):xs.drop k=xs.getD k .top::xs.drop (k+1):=by
 rw[List.drop_eq_getElem_cons h,List.getD_eq_getElem?_getD,List.getElem?_eq_getElem h];rfl
theorem Zys{xs:List Int}{k:Nat}(h:k<xs.length):xs.drop k=xs.getD k 0::xs.drop (k+1):=by
 rw[List.drop_eq_getElem_cons h,List.getD_eq_getElem?_getD,List.getElem?_eq_getElem h];rfl
theorem Zsg(ms ks rs l:List AV)(h:ZaA ms ks rs=true∧l.length≤1000000):Zao Tryz.prog 28 [.agg (.gen [.list (.big .str ms), .list (.big (.agg [.str, .int .i64]) ks), .list (.big (.agg [.str, .int .i64, .int .i64, .int .i64, .int .i64]) rs)]), .list (.big (.agg [.int .i64, .int .i64, .int .i64]) l)] (.int .i64 (Zpg ms ks rs l)) none:=
 start (Zvn ms ks rs l) fun C hC=>tgo hC Zcb ZDX (by
  have:=Zmf h.1
  by_cases he:ZaL ms ks rs=0<;>simp[ZCi,h.1,h.2,he,Zpg,ZlQ,this])
theorem ZrR(ms ks rs l:List AV)(wn fl:Int)(h:ZaA ms ks rs=true∧l.length≤1000000):Zao Tryz.prog 19 [.agg (.gen [.list (.big .str ms), .list (.big (.agg [.str, .int .i64]) ks), .list (.big (.agg [.str, .int .i64, .int .i64, .int .i64, .int .i64]) rs), .list (.big (.agg [.int .i64, .int .i64, .int .i64]) l), .int .i64 wn, .int .i64 fl])] (.int .i64 (upE ms ks rs l wn fl)) none:=
 start (ZtG ms ks rs l wn fl) fun C hC=>tgo hC Zcb ZEx (by
  have:=Zmf h.1
  by_cases he:ZaL ms ks rs=0
  ·by_cases hf:ZcY 0 ks.length l=0<;>by_cases h1:Zab wn 1 6=true<;>by_cases h2:Zab fl 1 6=true<;>simp[Zvp,h.1,h.2,he,upE,Zpg,this,hf,h1,h2]
  ·simp[Zvp,h.1,he,upE,Zpg,ZlQ])
theorem bxA(a b:Int):([AV.int .i64 a,AV.int .i64 b].all fun x=>AV.bx x&&Nat.beq (Zae std x) 1)=true:=rfl
theorem Zrg(ms ks rs l:List AV)(wn fl:Int)(h:ZaA ms ks rs=true∧l.length≤1000000):Zao Tryz.prog 36 [.agg (.gen [.list (.big .str ms), .list (.big (.agg [.str, .int .i64]) ks), .list (.big (.agg [.str, .int .i64, .int .i64, .int .i64, .int .i64]) rs), .list (.big (.agg [.int .i64, .int .i64, .int .i64]) l), .int .i64 wn, .int .i64 fl])] (.int .i64 (upE ms ks rs l wn fl)) none:=
 start (ZuF ms ks rs l wn fl) fun C hC=>tgo hC Zcb ZEP (by
  unfold ZBA
  simp only[bxA]
  by_cases hf:Zpg ms ks rs l=0<;>by_cases h1:Zab wn 1 6=true<;>by_cases h2:Zab fl 1 6=true<;>(have hf':=hf;unfold Zpg at hf';simp[h.1,h.2,upE,hf,hf',h1,h2,Zai,Zaa,Zpg]))
theorem Zwm(ek en:Int):Zao Tryz.prog 38 [.agg (.gen [.int .i64 ek, .int .i64 en])] (.int .i64 (evE ek en)) none:=
 start (Zwd ek en) fun C hC=>tgo hC Zcb ZFa (by
  by_cases h1:Zab ek 0 8=true
  ·by_cases h2:ek=0
   ·subst h2
    by_cases h3:Zab en 1 1000000000000=true<;>simp[ZmW,h1,evE,Zaa,h3]
   ·by_cases h4:ek=1
    ·subst h4
     by_cases h3:Zab en 0 11=true<;>simp[ZmW,h1,evE,Zaa,h3]
    ·by_cases h5:Zab ek 2 6=true
     ·by_cases h3:Zab en 0 5=true<;>simp[ZmW,h1,h2,h4,h5,evE,Zaa,h3]
     ·by_cases h3:en=0<;>simp[ZmW,h1,h2,h4,h5,evE,Zaa,h3]
  ·simp[ZmW,h1,evE])
theorem Zuz(ek en:Int):Zao Tryz.prog 37 [.agg (.gen [.int .i64 ek, .int .i64 en])] (.int .i64 (evE ek en)) none:=
 start (Zxu ek en) fun C hC=>tgo hC Zcb ZE9 (by
  by_cases h1:Zab ek 0 8=true
  ·have h2:=within_iff.1 h1
   obtain⟨n,rfl⟩:∃n:Nat,ek=n:=⟨ek.toNat,by omega⟩
   have h3:n≤8:=by omega
   match n,h3 with
   |0,_=>simp[ZgM,evE,Zab]
   |1,_=>simp[ZgM,evE,Zab]
   |2,_=>simp[ZgM,h1,evE,Zab]
   |3,_=>simp[ZgM,h1,evE,Zab]
   |4,_=>simp[ZgM,h1,evE,Zab]
   |5,_=>simp[ZgM,h1,evE,Zab]
   |6,_=>simp[ZgM,h1,evE,Zab]
   |7,_=>simp[ZgM,h1,evE,Zab]
   |8,_=>simp[ZgM,h1,evE,Zab]
  ·simp[ZgM,h1,evE])
theorem Zq3(n:Int):Zao Tryz.prog 84 [.int .i64 n] (.bool (Zxk n)) none:=
 start (Zvj n) fun C hC=>tgo hC Zcb ZEY (by
  by_cases h1:n=0<;>by_cases h2:n=1<;>simp[ZAE,h1,h2,Zxk])
theorem ZqG(n:Int):Zao Tryz.prog 97 [.int .i64 n] (.bool (Zab n 2 6)) none:=
 start (ZtH n) fun C hC=>tgo hC Zcb ZDP (by simp[ZAX])
theorem Znm(ms ks rs l:List AV)(wn fl:Int):Zao Tryz.prog 14 [.agg (.gen [.list (.big .str ms), .list (.big (.agg [.str, .int .i64]) ks), .list (.big (.agg [.str, .int .i64, .int .i64, .int .i64, .int .i64]) rs), .list (.big (.agg [.int .i64, .int .i64, .int .i64]) l), .int .i64 wn, .int .i64 fl])] (.bool (Zih ms ks rs l)) none:=
 start (ZuK ms ks rs l wn fl) fun C hC=>tgo hC Zcb ZEO (by
  by_cases h1:Zqb ms ks rs=true<;>by_cases h2:l.length≤14<;>simp[ZBs,h1,h2,Zih]<;>omega)
theorem ZrO(ms ks rs l:List AV)(wn fl:Int)(h:ms.length≤1000000∧ks.length≤1000000∧rs.length≤1000000∧l.length≤1000000):Zao Tryz.prog 16 [.agg (.gen [.list (.big .str ms), .list (.big (.agg [.str, .int .i64]) ks), .list (.big (.agg [.str, .int .i64, .int .i64, .int .i64, .int .i64]) rs), .list (.big (.agg [.int .i64, .int .i64, .int .i64]) l), .int .i64 wn, .int .i64 fl])] (.agg (.gen [.list (.big .str ms), .list (.big (.agg [.str, .int .i64]) ks), .list (.big (.agg [.str, .int .i64, .int .i64, .int .i64, .int .i64]) rs), .list (.big (.agg [.int .i64, .int .i64, .int .i64]) l), .int .i64 wn, .int .i64 fl])) none:=
 start (ZwO ms ks rs l wn fl) fun C hC=>tgo hC Zcb ZEt (by simp[Zyw,h])
theorem ZrY(at0 mo:Int)(dn:List AV)(ha:Bool)(ba:Int)(to:Bool)(dw:List Int)(up:List AV)(h:dn.length≤1000000∧dw.length≤1000000∧up.length≤1000000):Zao Tryz.prog 35 [.agg (.gen [.int .i64 at0, .int .i64 mo, .list (.big (.agg [.int .i64, .int .i64]) dn), .bool ha, .int .i64 ba, .bool to, .list (.ints .i64 dw), .list (.big (.agg [.int .i64, .bool]) up)])] (.agg (.gen [.int .i64 at0, .int .i64 mo, .list (.big (.agg [.int .i64, .int .i64]) dn), .bool ha, .int .i64 ba, .bool to, .list (.ints .i64 dw), .list (.big (.agg [.int .i64, .bool]) up)])) none:=
 start (ZvC at0 mo dn ha ba to dw up) fun C hC=>tgo hC Zcb ZFC (by simp[ZxX];omega)
theorem ZrF(xs:List AV)(h:xs.length≤1000000):Zao Tryz.prog 17 [.list (.big (.agg [.int .i64, .int .i64]) xs)] (.list (.big (.agg [.int .i64, .int .i64]) xs)) none:=
 start (ZtJ xs) fun C hC=>tgo hC Zcb ZEd (by simp[ZA9];omega)
theorem ZgR(xs:List Int)(h:xs.length≤1000000):Zao Tryz.prog 81 [.list (.ints .i64 xs)] (.row 0 0) (some ⟨3,1, .ints .i64 xs⟩):=
 start (Ztk xs) fun C hC=>tgo hC Zcb ZFE (by simp[ZCN];omega)
theorem Zop(xs:List Int)(h:xs.length≤1000000):Zao Tryz.prog 81 [.list (.ints .i64 xs)] (.list (.ints .i64 xs)) ZC0:=Zuv (ZgR xs h) rfl rfl
theorem Zkl{C:Ctx}(hC:C.P=Tryz.prog)(xs ys:List Int)(hl:xs.length≤1000000∧xs.length=ys.length):∀m k:Nat,k+m=xs.length→Ev C (Zhy xs ys k) (Zfk xs ys k) (ZcD 29 (.bool (decide (xs.drop k=ys.drop k))) none)
 |0,k,hk=>tgo hC Zcb ZiC (by
  rw[List.drop_of_length_le (by omega),List.drop_of_length_le (by omega)]
  simp[ZdT,show ¬(k:Int)<xs.length by omega])
 |m+1,k,hk=>by
  have ih:=Zkl hC xs ys hl m (k+1) (by omega)
  rw[Zys (show k<xs.length by omega),Zys (show k<ys.length by omega)]
  refine tgo hC Zcb ZiC ?_
  by_cases h:xs.getD k 0=ys.getD k 0
  ·simp[-List.getD_eq_getElem?_getD,ZdT,show(k:Int)<xs.length by omega,show k<xs.length by omega,show k<ys.length by omega,h]
   exact⟨by omega,by simpa using ih⟩
  ·simp[-List.getD_eq_getElem?_getD,ZdT,show(k:Int)<xs.length by omega,show k<xs.length by omega,show k<ys.length by omega,h]
theorem Zqo(xs ys:List Int)(hl:xs.length≤1000000):Zao Tryz.prog 29 [.list (.ints .i64 xs), .list (.ints .i64 ys)] (.bool (decide (xs=ys))) none:=
 start (Zud xs ys) fun C hC=>tgo hC Zcb ZE6 (by
  by_cases h:xs.length=ys.length
  ·simp[Zxi,h]
   have:=Zkl hC xs ys ⟨hl,h⟩ xs.length 0 (by omega)
   simpa using this
  ·have:xs≠ys:=fun e=>h (by rw[e])
   simp[Zxi,this,show ¬((xs.length:Int)=ys.length) by omega])
theorem ZkE{C:Ctx}(hC:C.P=Tryz.prog)(xs ys:List AV)(hl:xs.length≤1000000∧xs.length=ys.length):∀m k:Nat,k+m=xs.length→Ev C (Zht xs ys k) (Zfw xs ys k) (ZcD 22 (.bool (ZbV eq2 (xs.drop k) (ys.drop k))) none)
 |0,k,hk=>tgo hC Zcb ZiG (by
  rw[List.drop_of_length_le (by omega),List.drop_of_length_le (by omega)]
  simp[Zd3,show ¬(k:Int)<xs.length by omega,ZbV])
 |m+1,k,hk=>by
  have ih:=ZkE hC xs ys hl m (k+1) (by omega)
  rw[ZqM (show k<xs.length by omega),ZqM (show k<ys.length by omega),ZbV]
  refine tgo hC Zcb ZiG ?_
  by_cases h:eq2 (xs.getD k .top) (ys.getD k .top)=true
  ·rw[h,Bool.true_and]
   simp[-List.getD_eq_getElem?_getD,eq2]at h
   simp[-List.getD_eq_getElem?_getD,Zd3,show(k:Int)<xs.length by omega,show k<xs.length by omega,show k<ys.length by omega,h]
   exact⟨by omega,by simpa using ih⟩
  ·rw[(by simpa using h:eq2 (xs.getD k .top) (ys.getD k .top)=false),Bool.false_and]
   simp only[eq2,decide_eq_true_eq,not_and]at h
   simp[-List.getD_eq_getElem?_getD,Zd3,show(k:Int)<xs.length by omega,show k<xs.length by omega,show k<ys.length by omega]
   exact fun h1 h2=>absurd h2 (h h1)
theorem ZlU{e:AV→AV→Bool}{xs ys:List AV}(h:xs.length≠ys.length):ZbV e xs ys=false:=by
 cases hb:ZbV e xs ys
 ·rfl
 ·exact absurd (ZjZ hb) h
theorem Zke(xs ys:List AV)(hl:xs.length≤1000000):Zao Tryz.prog 22 [.list (.big (.agg [.int .i64, .int .i64]) xs), .list (.big (.agg [.int .i64, .int .i64]) ys)] (.bool (ZbV eq2 xs ys)) none:=
 start (Zvs xs ys) fun C hC=>tgo hC Zcb ZFR (by
  by_cases h:xs.length=ys.length
  ·simp[Zv8,h]
   have:=ZkE hC xs ys ⟨hl,h⟩ xs.length 0 (by omega)
   simpa using this
  ·simp[Zv8,ZlU h,show ¬((xs.length:Int)=ys.length) by omega])
theorem ZrB(n:Nat)(x:Int):List.replicate n x++[x]=List.replicate (n+1) x:=by
 rw[List.replicate_succ']
theorem ZmQ{C:Ctx}(hC:C.P=Tryz.prog)(ms ks rs:List AV)(hl:ks.length≤1000000):∀m k:Nat,k+m=ks.length→Ev C (Zg1 ms ks rs k (List.replicate k (-1))) (Zfo ms ks rs k (List.replicate k (-1))) (Zd9 77 (.agg (.gen [.int .i64 0, .int .i64 0, .list (.ints .i64 (List.replicate ks.length (-1)))])) none)
 |0,k,hk=>Zd7 hC Zcb Ziq (by
  have:k=ks.length:=by omega
  subst this
  simp[Ze6]
  exact .same _)
 |m+1,k,hk=>by
  have ih:=ZmQ hC ms ks rs hl m (k+1) (by omega)
  rw[←ZrB]at ih
  refine Zd7 hC Zcb Ziq ?_
  simp[Ze6,show(k:Int)<ks.length by omega,AV.bx,Zae]
  exact⟨by omega,by simpa using ih⟩
theorem Zsj(ms ks rs:List AV)(hl:ks.length≤1000000):Zao Tryz.prog 77 [.agg (.gen [.list (.big .str ms), .list (.big (.agg [.str, .int .i64]) ks), .list (.big (.agg [.str, .int .i64, .int .i64, .int .i64, .int .i64]) rs)])] (.agg (.gen [.int .i64 0, .int .i64 0, .list (.ints .i64 (List.replicate ks.length (-1)))])) none:=
 Zdf (Zuf ms ks rs) fun C hC=>Zd7 hC Zcb ZEf (by
  simp only[ZxR]
  refine Zd7 hC Zcb ZnJ ?_
  by_cases h:ks.length=0
  ·simp[Ze5,h]
   exact .agg' ⟨.same _, .same _, .nil _ rfl,trivial⟩
  ·have:=ZmQ hC ms ks rs hl (ks.length-1) 1 (by omega)
   simp[Ze5,show 0<ks.length by omega,AV.bx,Zae]
   simpa using this)
def k28:Ctr:=⟨28,0,fun _ a=>match a with |[.agg (.gen [.list (.big .str ms), .list (.big (.agg [.str, .int .i64]) ks), .list (.big (.agg [.str, .int .i64, .int .i64, .int .i64, .int .i64]) rs)]), .list (.big (.agg [.int .i64, .int .i64, .int .i64]) l)]=>some (decide (ZaA ms ks rs=true∧l.length≤1000000), .int .i64 (Zpg ms ks rs l),none) |_=>none⟩
theorem ZzG:k28.OK Tryz.prog:=fun pa args r fr h=>by
 simp only[k28]at h
 split at h
 ·simp only[Option.some.injEq,Prod.mk.injEq,decide_eq_true_eq]at h
  obtain⟨h0,rfl,rfl⟩:=h
  exact Zsg _ _ _ _ h0
 ·cases h
def k19:Ctr:=⟨19,0,fun _ a=>match a with |[.agg (.gen [.list (.big .str ms), .list (.big (.agg [.str, .int .i64]) ks), .list (.big (.agg [.str, .int .i64, .int .i64, .int .i64, .int .i64]) rs), .list (.big (.agg [.int .i64, .int .i64, .int .i64]) l), .int .i64 wn, .int .i64 fl])]=>some (decide (ZaA ms ks rs=true∧l.length≤1000000), .int .i64 (upE ms ks rs l wn fl),none) |_=>none⟩
theorem ZCI:k19.OK Tryz.prog:=fun pa args r fr h=>by
 simp only[k19]at h
 split at h
 ·simp only[Option.some.injEq,Prod.mk.injEq,decide_eq_true_eq]at h
  obtain⟨h0,rfl,rfl⟩:=h
  exact ZrR _ _ _ _ _ _ h0
 ·cases h
def k36:Ctr:=⟨36,0,fun _ a=>match a with |[.agg (.gen [.list (.big .str ms), .list (.big (.agg [.str, .int .i64]) ks), .list (.big (.agg [.str, .int .i64, .int .i64, .int .i64, .int .i64]) rs), .list (.big (.agg [.int .i64, .int .i64, .int .i64]) l), .int .i64 wn, .int .i64 fl])]=>some (decide (ZaA ms ks rs=true∧l.length≤1000000), .int .i64 (upE ms ks rs l wn fl),none) |_=>none⟩
theorem Zx9:k36.OK Tryz.prog:=fun pa args r fr h=>by
 simp only[k36]at h
 split at h
 ·simp only[Option.some.injEq,Prod.mk.injEq,decide_eq_true_eq]at h
  obtain⟨h0,rfl,rfl⟩:=h
  exact Zrg _ _ _ _ _ _ h0
 ·cases h
def k38:Ctr:=⟨38,0,fun _ a=>match a with |[.agg (.gen [.int .i64 ek, .int .i64 en])]=>some (true, .int .i64 (evE ek en),none) |_=>none⟩
theorem ZCQ:k38.OK Tryz.prog:=fun pa args r fr h=>by
 simp only[k38]at h
 split at h
 ·cases h
  exact Zwm _ _
 ·cases h
def k37:Ctr:=⟨37,0,fun _ a=>match a with |[.agg (.gen [.int .i64 ek, .int .i64 en])]=>some (true, .int .i64 (evE ek en),none) |_=>none⟩
theorem ZyF:k37.OK Tryz.prog:=fun pa args r fr h=>by
 simp only[k37]at h
 split at h
 ·cases h
  exact Zuz _ _
 ·cases h
def k84:Ctr:=⟨84,0,fun _ a=>match a with |[.int .i64 n]=>some (true, .bool (Zxk n),none) |_=>none⟩
theorem ZBl:k84.OK Tryz.prog:=fun pa args r fr h=>by
 simp only[k84]at h
 split at h
 ·cases h
  exact Zq3 _
 ·cases h
def k97:Ctr:=⟨97,0,fun _ a=>match a with |[.int .i64 n]=>some (true, .bool (Zab n 2 6),none) |_=>none⟩
theorem Zx8:k97.OK Tryz.prog:=fun pa args r fr h=>by
 simp only[k97]at h
 split at h
 ·cases h
  exact ZqG _
 ·cases h
def k14:Ctr:=⟨14,0,fun _ a=>match a with |[.agg (.gen [.list (.big .str ms), .list (.big (.agg [.str, .int .i64]) ks), .list (.big (.agg [.str, .int .i64, .int .i64, .int .i64, .int .i64]) rs), .list (.big (.agg [.int .i64, .int .i64, .int .i64]) l), .int .i64 _, .int .i64 _])]=>some (true, .bool (Zih ms ks rs l),none) |_=>none⟩
theorem ZxJ:k14.OK Tryz.prog:=fun pa args r fr h=>by
 simp only[k14]at h
 split at h
 ·cases h
  exact Znm _ _ _ _ _ _
 ·cases h
def k16:Ctr:=⟨16,0,fun _ a=>match a with |[.agg (.gen [.list (.big .str ms), .list (.big (.agg [.str, .int .i64]) ks), .list (.big (.agg [.str, .int .i64, .int .i64, .int .i64, .int .i64]) rs), .list (.big (.agg [.int .i64, .int .i64, .int .i64]) l), .int .i64 wn, .int .i64 fl])]=>some (decide (ms.length≤1000000∧ks.length≤1000000∧rs.length≤1000000∧l.length≤1000000), .agg (.gen [.list (.big .str ms), .list (.big (.agg [.str, .int .i64]) ks), .list (.big (.agg [.str, .int .i64, .int .i64, .int .i64, .int .i64]) rs), .list (.big (.agg [.int .i64, .int .i64, .int .i64]) l), .int .i64 wn, .int .i64 fl]),none) |_=>none⟩
theorem ZBb:k16.OK Tryz.prog:=fun pa args r fr h=>by
 simp only[k16]at h
 split at h
 ·simp only[Option.some.injEq,Prod.mk.injEq,decide_eq_true_eq]at h
  obtain⟨h0,rfl,rfl⟩:=h
  exact ZrO _ _ _ _ _ _ h0
 ·cases h
def k35:Ctr:=⟨35,0,fun _ a=>match a with |[.agg (.gen [.int .i64 at0, .int .i64 mo, .list (.big (.agg [.int .i64, .int .i64]) dn), .bool ha, .int .i64 ba, .bool to, .list (.ints .i64 dw), .list (.big (.agg [.int .i64, .bool]) up)])]=>some (decide (dn.length≤1000000∧dw.length≤1000000∧up.length≤1000000), .agg (.gen [.int .i64 at0, .int .i64 mo, .list (.big (.agg [.int .i64, .int .i64]) dn), .bool ha, .int .i64 ba, .bool to, .list (.ints .i64 dw), .list (.big (.agg [.int .i64, .bool]) up)]),none) |_=>none⟩
theorem ZyU:k35.OK Tryz.prog:=fun pa args r fr h=>by
 simp only[k35]at h
 split at h
 ·simp only[Option.some.injEq,Prod.mk.injEq,decide_eq_true_eq]at h
  obtain⟨h0,rfl,rfl⟩:=h
  exact ZrY _ _ _ _ _ _ _ _ h0
 ·cases h
def k17:Ctr:=⟨17,0,fun _ a=>match a with |[.list (.big (.agg [.int .i64, .int .i64]) xs)]=>some (decide (xs.length≤1000000), .list (.big (.agg [.int .i64, .int .i64]) xs),none) |_=>none⟩
theorem ZzS:k17.OK Tryz.prog:=fun pa args r fr h=>by
 simp only[k17]at h
 split at h
 ·simp only[Option.some.injEq,Prod.mk.injEq,decide_eq_true_eq]at h
  obtain⟨h0,rfl,rfl⟩:=h
  exact ZrF _ h0
 ·cases h
def k29:Ctr:=⟨29,0,fun _ a=>match a with |[.list (.ints .i64 xs), .list (.ints .i64 ys)]=>some (decide (xs.length≤1000000), .bool (decide (xs=ys)),none) |_=>none⟩
theorem ZzY:k29.OK Tryz.prog:=fun pa args r fr h=>by
 simp only[k29]at h
 split at h
 ·simp only[Option.some.injEq,Prod.mk.injEq,decide_eq_true_eq]at h
  obtain⟨h0,rfl,rfl⟩:=h
  exact Zqo _ _ h0
 ·cases h
def k22:Ctr:=⟨22,0,fun _ a=>match a with |[.list (.big (.agg [.int .i64, .int .i64]) xs), .list (.big (.agg [.int .i64, .int .i64]) ys)]=>some (decide (xs.length≤1000000), .bool (ZbV eq2 xs ys),none) |_=>none⟩
theorem ZxT:k22.OK Tryz.prog:=fun pa args r fr h=>by
 simp only[k22]at h
 split at h
 ·simp only[Option.some.injEq,Prod.mk.injEq,decide_eq_true_eq]at h
  obtain⟨h0,rfl,rfl⟩:=h
  exact Zke _ _ h0
 ·cases h
def k77:Ctr:=⟨77,0,fun _ a=>match a with |[.agg (.gen [.list (.big .str _), .list (.big (.agg [.str, .int .i64]) ks), .list (.big (.agg [.str, .int .i64, .int .i64, .int .i64, .int .i64]) _)])]=>some (decide (ks.length≤1000000), .agg (.gen [.int .i64 0, .int .i64 0, .list (.ints .i64 (List.replicate ks.length (-1)))]),none) |_=>none⟩
theorem Zx0:k77.OK Tryz.prog:=fun pa args r fr h=>by
 simp only[k77]at h
 split at h
 ·simp only[Option.some.injEq,Prod.mk.injEq,decide_eq_true_eq]at h
  obtain⟨h0,rfl,rfl⟩:=h
  exact Zsj _ _ _ h0
 ·cases h
def B9:List Ctr:=[k28,k19,k36,k38,k37,k84,k97,k14,k16,k35,k17,k29,k22,k77]++B8
theorem ZDW:ZaD Tryz.prog B9:=⟨ZzG,⟨ZCI,⟨Zx9,⟨ZCQ,⟨ZyF,⟨ZBl,⟨Zx8,⟨ZxJ,⟨ZBb,⟨ZyU,⟨ZzS,⟨ZzY,⟨ZxT,⟨Zx0,Zcb⟩⟩⟩⟩⟩⟩⟩⟩⟩⟩⟩⟩⟩⟩
end Go.Proofs.YtkeoeooghhjibaaGreatDoor
/- Calls at given values. Printed by facts.py. -/
namespace Go.Proofs.YtkeoeooghhjibaaGreatDoor
set_option maxRecDepth 1000000
def rp0:Fact:=⟨179,[(.int .u64 1),(.int .u64 0)],(.tup [(.int .u64 0),(.int .u64 0)]),none⟩
theorem ZAZ:Zao Tryz.prog rp0.f rp0.args rp0.r rp0.fr:=Zad (n:=100000) (l:=[]) follows Zaf trivial (by kernel_rfl)
def rp1:Fact:=⟨152,[(.int .u64 1),(.int .u64 0)],(.tup [(.int .u64 0),(.int .u64 0)]),none⟩
theorem Zz2:Zao Tryz.prog rp1.f rp1.args rp1.r rp1.fr:=Zad (n:=100000) (l:=[rp0]) follows Zaf ⟨ZAZ,trivial⟩ (by kernel_rfl)
def rp2:Fact:=⟨121,[(.list (.ints .i64 [(-1)])),(.int .i64 0)],(.row 0 0),(some ⟨3,1,(.ints .i64 [])⟩)⟩
theorem ZAQ:Zao Tryz.prog rp2.f rp2.args rp2.r rp2.fr:=Zad (n:=100000) (l:=[rp1]) follows Zaf ⟨Zz2,trivial⟩ (by kernel_rfl)
def rp3:Fact:=⟨179,[(.int .u64 1),(.int .u64 1)],(.tup [(.int .u64 0),(.int .u64 1)]),none⟩
theorem ZCx:Zao Tryz.prog rp3.f rp3.args rp3.r rp3.fr:=Zad (n:=100000) (l:=[]) follows Zaf trivial (by kernel_rfl)
def rp4:Fact:=⟨152,[(.int .u64 1),(.int .u64 1)],(.tup [(.int .u64 0),(.int .u64 1)]),none⟩
theorem ZAA:Zao Tryz.prog rp4.f rp4.args rp4.r rp4.fr:=Zad (n:=100000) (l:=[rp3]) follows Zaf ⟨ZCx,trivial⟩ (by kernel_rfl)
def rp5:Fact:=⟨121,[(.list (.ints .i64 [(-1)])),(.int .i64 1)],(.row 0 0),(some ⟨3,1,(.ints .i64 [(-1)])⟩)⟩
theorem Zx2:Zao Tryz.prog rp5.f rp5.args rp5.r rp5.fr:=Zad (n:=100000) (l:=[rp4]) follows Zaf ⟨ZAA,trivial⟩ (by kernel_rfl)
def rp6:Fact:=⟨179,[(.int .u64 1),(.int .u64 2)],(.tup [(.int .u64 0),(.int .u64 2)]),none⟩
theorem ZzN:Zao Tryz.prog rp6.f rp6.args rp6.r rp6.fr:=Zad (n:=100000) (l:=[]) follows Zaf trivial (by kernel_rfl)
def rp7:Fact:=⟨152,[(.int .u64 1),(.int .u64 2)],(.tup [(.int .u64 0),(.int .u64 2)]),none⟩
theorem ZBy:Zao Tryz.prog rp7.f rp7.args rp7.r rp7.fr:=Zad (n:=100000) (l:=[rp6]) follows Zaf ⟨ZzN,trivial⟩ (by kernel_rfl)
def rp8:Fact:=⟨121,[(.list (.ints .i64 [(-1)])),(.int .i64 2)],(.row 0 0),(some ⟨3,1,(.ints .i64 [(-1),(-1)])⟩)⟩
theorem Zx3:Zao Tryz.prog rp8.f rp8.args rp8.r rp8.fr:=Zad (n:=100000) (l:=[rp7]) follows Zaf ⟨ZBy,trivial⟩ (by kernel_rfl)
def rp9:Fact:=⟨179,[(.int .u64 1),(.int .u64 3)],(.tup [(.int .u64 0),(.int .u64 3)]),none⟩
theorem ZyP:Zao Tryz.prog rp9.f rp9.args rp9.r rp9.fr:=Zad (n:=100000) (l:=[]) follows Zaf trivial (by kernel_rfl)
def rp10:Fact:=⟨152,[(.int .u64 1),(.int .u64 3)],(.tup [(.int .u64 0),(.int .u64 3)]),none⟩
theorem Zur:Zao Tryz.prog rp10.f rp10.args rp10.r rp10.fr:=Zad (n:=100000) (l:=[rp9]) follows Zaf ⟨ZyP,trivial⟩ (by kernel_rfl)
def rp11:Fact:=⟨121,[(.list (.ints .i64 [(-1)])),(.int .i64 3)],(.row 0 0),(some ⟨3,1,(.ints .i64 [(-1),(-1),(-1)])⟩)⟩
theorem Zu2:Zao Tryz.prog rp11.f rp11.args rp11.r rp11.fr:=Zad (n:=100000) (l:=[rp10]) follows Zaf ⟨Zur,trivial⟩ (by kernel_rfl)
def rp12:Fact:=⟨179,[(.int .u64 1),(.int .u64 4)],(.tup [(.int .u64 0),(.int .u64 4)]),none⟩
theorem ZwX:Zao Tryz.prog rp12.f rp12.args rp12.r rp12.fr:=Zad (n:=100000) (l:=[]) follows Zaf trivial (by kernel_rfl)
def rp13:Fact:=⟨152,[(.int .u64 1),(.int .u64 4)],(.tup [(.int .u64 0),(.int .u64 4)]),none⟩
theorem Zw1:Zao Tryz.prog rp13.f rp13.args rp13.r rp13.fr:=Zad (n:=100000) (l:=[rp12]) follows Zaf ⟨ZwX,trivial⟩ (by kernel_rfl)
def rp14:Fact:=⟨121,[(.list (.ints .i64 [(-1)])),(.int .i64 4)],(.row 0 0),(some ⟨3,1,(.ints .i64 [(-1),(-1),(-1),(-1)])⟩)⟩
theorem Zva:Zao Tryz.prog rp14.f rp14.args rp14.r rp14.fr:=Zad (n:=100000) (l:=[rp13]) follows Zaf ⟨Zw1,trivial⟩ (by kernel_rfl)
def rp15:Fact:=⟨179,[(.int .u64 1),(.int .u64 5)],(.tup [(.int .u64 0),(.int .u64 5)]),none⟩
theorem Zus:Zao Tryz.prog rp15.f rp15.args rp15.r rp15.fr:=Zad (n:=100000) (l:=[]) follows Zaf trivial (by kernel_rfl)
def rp16:Fact:=⟨152,[(.int .u64 1),(.int .u64 5)],(.tup [(.int .u64 0),(.int .u64 5)]),none⟩
theorem ZwE:Zao Tryz.prog rp16.f rp16.args rp16.r rp16.fr:=Zad (n:=100000) (l:=[rp15]) follows Zaf ⟨Zus,trivial⟩ (by kernel_rfl)
def rp17:Fact:=⟨121,[(.list (.ints .i64 [(-1)])),(.int .i64 5)],(.row 0 0),(some ⟨3,1,(.ints .i64 [(-1),(-1),(-1),(-1),(-1)])⟩)⟩
theorem Zv6:Zao Tryz.prog rp17.f rp17.args rp17.r rp17.fr:=Zad (n:=100000) (l:=[rp16]) follows Zaf ⟨ZwE,trivial⟩ (by kernel_rfl)
def rp18:Fact:=⟨179,[(.int .u64 1),(.int .u64 6)],(.tup [(.int .u64 0),(.int .u64 6)]),none⟩
theorem Zt4:Zao Tryz.prog rp18.f rp18.args rp18.r rp18.fr:=Zad (n:=100000) (l:=[]) follows Zaf trivial (by kernel_rfl)
def rp19:Fact:=⟨152,[(.int .u64 1),(.int .u64 6)],(.tup [(.int .u64 0),(.int .u64 6)]),none⟩
theorem ZtX:Zao Tryz.prog rp19.f rp19.args rp19.r rp19.fr:=Zad (n:=100000) (l:=[rp18]) follows Zaf ⟨Zt4,trivial⟩ (by kernel_rfl)
def rp20:Fact:=⟨121,[(.list (.ints .i64 [(-1)])),(.int .i64 6)],(.row 0 0),(some ⟨3,1,(.ints .i64 [(-1),(-1),(-1),(-1),(-1),(-1)])⟩)⟩
theorem ZtA:Zao Tryz.prog rp20.f rp20.args rp20.r rp20.fr:=Zad (n:=100000) (l:=[rp19]) follows Zaf ⟨ZtX,trivial⟩ (by kernel_rfl)
def rp21:Fact:=⟨179,[(.int .u64 1),(.int .u64 7)],(.tup [(.int .u64 0),(.int .u64 7)]),none⟩
theorem ZvG:Zao Tryz.prog rp21.f rp21.args rp21.r rp21.fr:=Zad (n:=100000) (l:=[]) follows Zaf trivial (by kernel_rfl)
def rp22:Fact:=⟨152,[(.int .u64 1),(.int .u64 7)],(.tup [(.int .u64 0),(.int .u64 7)]),none⟩
theorem Zvl:Zao Tryz.prog rp22.f rp22.args rp22.r rp22.fr:=Zad (n:=100000) (l:=[rp21]) follows Zaf ⟨ZvG,trivial⟩ (by kernel_rfl)
def rp23:Fact:=⟨121,[(.list (.ints .i64 [(-1)])),(.int .i64 7)],(.row 0 0),(some ⟨3,1,(.ints .i64 [(-1),(-1),(-1),(-1),(-1),(-1),(-1)])⟩)⟩
theorem Ztv:Zao Tryz.prog rp23.f rp23.args rp23.r rp23.fr:=Zad (n:=100000) (l:=[rp22]) follows Zaf ⟨Zvl,trivial⟩ (by kernel_rfl)
def rp24:Fact:=⟨179,[(.int .u64 1),(.int .u64 8)],(.tup [(.int .u64 0),(.int .u64 8)]),none⟩
theorem Zxv:Zao Tryz.prog rp24.f rp24.args rp24.r rp24.fr:=Zad (n:=100000) (l:=[]) follows Zaf trivial (by kernel_rfl)
def rp25:Fact:=⟨152,[(.int .u64 1),(.int .u64 8)],(.tup [(.int .u64 0),(.int .u64 8)]),none⟩
theorem Zvb:Zao Tryz.prog rp25.f rp25.args rp25.r rp25.fr:=Zad (n:=100000) (l:=[rp24]) follows Zaf ⟨Zxv,trivial⟩ (by kernel_rfl)
def rp26:Fact:=⟨121,[(.list (.ints .i64 [(-1)])),(.int .i64 8)],(.row 0 0),(some ⟨3,1,(.ints .i64 [(-1),(-1),(-1),(-1),(-1),(-1),(-1),(-1)])⟩)⟩
theorem ZvR:Zao Tryz.prog rp26.f rp26.args rp26.r rp26.fr:=Zad (n:=100000) (l:=[rp25]) follows Zaf ⟨Zvb,trivial⟩ (by kernel_rfl)
end Go.Proofs.YtkeoeooghhjibaaGreatDoor
/- A copy, owned or a value, as the path says; a row of one value. No condition. -/
namespace Go.Proofs.YtkeoeooghhjibaaGreatDoor
def k81b:Ctr:=⟨81,1,fun pa a=>match pa with
 |[]=>none
 |b::_=>(match a with
  |[.list (.ints .i64 xs)]=>some (decide (xs.length≤1000000),(match b with |true=>.row 0 0 |false=>.list (.ints .i64 xs)),(match b with |true=>some ⟨3,1, .ints .i64 xs⟩ |false=>ZC0))
  |_=>none)⟩
theorem Zup:k81b.OK Tryz.prog:=fun pa args r fr h=>by
 simp only[k81b]at h
 split at h
 ·simp at h
 ·split at h
  ·simp only[Option.some.injEq,Prod.mk.injEq,decide_eq_true_eq]at h
   obtain⟨h0,rfl,rfl⟩:=h
   split
   ·exact ZgR _ h0
   ·exact Zop _ h0
  ·cases h
theorem Zp8(xs:List Int)(n:Int)(h:xs=[-1]∧0≤n∧n≤8):Zao Tryz.prog 121 [.list (.ints .i64 xs), .int .i64 n] (.row 0 0) (some ⟨3,1, .ints .i64 (List.replicate n.toNat (-1))⟩):=by
 obtain⟨rfl,h1,h2⟩:=h
 obtain⟨m,rfl⟩:∃m:Nat,n=m:=⟨n.toNat,by omega⟩
 have h3:m≤8:=by omega
 match m,h3 with
 |0,_=>exact ZAQ
 |1,_=>exact Zx2
 |2,_=>exact Zx3
 |3,_=>exact Zu2
 |4,_=>exact Zva
 |5,_=>exact Zv6
 |6,_=>exact ZtA
 |7,_=>exact Ztv
 |8,_=>exact ZvR
def k121:Ctr:=⟨121,0,fun _ a=>match a with |[.list (.ints .i64 xs), .int .i64 n]=>some (decide (xs=[-1]∧0≤n∧n≤8), .row 0 0,some ⟨3,1, .ints .i64 (List.replicate n.toNat (-1))⟩) |_=>none⟩
theorem ZuZ:k121.OK Tryz.prog:=fun pa args r fr h=>by
 simp only[k121]at h
 split at h
 ·simp only[Option.some.injEq,Prod.mk.injEq,decide_eq_true_eq]at h
  obtain⟨h0,rfl,rfl⟩:=h
  exact Zp8 _ _ h0
 ·cases h
def Ba:List Ctr:=[k81b,k121]++B9
theorem Zno:ZaD Tryz.prog Ba:=⟨Zup,⟨ZuZ,ZDW⟩⟩
end Go.Proofs.YtkeoeooghhjibaaGreatDoor
/- Paths of functions, printed by the explorer (Gx). No condition. -/
namespace Go.Proofs.YtkeoeooghhjibaaGreatDoor
set_option maxRecDepth 100000
set_option linter.unusedVariables false
def ZxY(ms ks rs:List AV)(a b:Int)(xs:List Int)(k t:Int):AFrame:={ fn:=78,N:=34,env:=[(0,AV.agg (Row.gen [.list (Row.big .str ms), .list (Row.big (.agg [.str, .int .i64]) ks), .list (Row.big (.agg [.str, .int .i64, .int .i64, .int .i64, .int .i64]) rs)])),(1,AV.agg (Row.gen [.int .i64 a, .int .i64 b, .list (.ints .i64 xs)])),(2,AV.int .i64 k),(3,AV.int .i64 t)],todo:=[.code a78.code],defs:=[],rnd:=none,ret:=false,res:=[ARes.cell 8 true 3] }
def ZIF(ms ks rs:List AV)(a b:Int)(xs:List Int)(k t:Int):List AFrame:=[(ZxY ms ks rs a b xs k t)]
theorem Zxl(ms ks rs:List AV)(a b:Int)(xs:List Int)(k t:Int):Zar tab 78 [AV.agg (Row.gen [.list (Row.big .str ms), .list (Row.big (.agg [.str, .int .i64]) ks), .list (Row.big (.agg [.str, .int .i64, .int .i64, .int .i64, .int .i64]) rs)]),AV.agg (Row.gen [.int .i64 a, .int .i64 b, .list (.ints .i64 xs)]),AV.int .i64 k,AV.int .i64 t]=some (ZxY ms ks rs a b xs k t):=rfl
def ZyB(A:Ar)(K:KT)(F:FT)(ms ks rs:List AV)(a b:Int)(xs:List Int)(k t:Int):Prop:=rB [decide (List.length xs≤1000000)] (rB [Zag (Zag (A.le 0 k) (Nat.blt (A.nat k) (A.lenA ks))) true,Zag (Nat.blt (A.nat k) (A.len xs)) true,Zag (A.le 0 k) (Nat.blt (A.nat k) (A.len xs))] (bB (A.not (A.eq ((A.nthA ks (A.nat k)).cellAt 1).toI (-1))) (F (AV.agg (Row.gen [.int .i64 ((A.nthA ks (A.nat k)).cellAt 1).toI, .int .i64 t, .list (.ints .i64 (A.set xs (A.nat k) t))])) (none)) (F (AV.agg (Row.gen [.int .i64 a, .int .i64 t, .list (.ints .i64 (A.set xs (A.nat k) t))])) (none))))
theorem ZD9{A:Ar}{K:KT}{F:FT}{M:MT}{ms ks rs:List AV}{a b:Int}{xs:List Int}{k t:Int} :ZaH A tab Ba 78 K F M (.run 7 (.ty (.run 27 (.tf (.run 11 (.fn)) (.run 7 (.fn)))))) (ZIF ms ks rs a b xs k t) []=ZyB A K F ms ks rs a b xs k t:=by kernel_rfl
def Zzu(at0 mo:Int)(dn:List AV)(ha:Bool)(ba:Int)(to:Bool)(dw:List Int)(up:List AV)(at1 mo1:Int)(dn1:List AV)(ha1:Bool)(ba1:Int)(to1:Bool)(dw1:List Int)(up1:List AV):AFrame:={ fn:=21,N:=82,env:=[(0,AV.agg (Row.gen [.int .i64 at0, .int .i64 mo, .list (Row.big (.agg [.int .i64, .int .i64]) dn), .bool ha, .int .i64 ba, .bool to, .list (.ints .i64 dw), .list (Row.big (.agg [.int .i64, .bool]) up)])),(1,AV.agg (Row.gen [.int .i64 at1, .int .i64 mo1, .list (Row.big (.agg [.int .i64, .int .i64]) dn1), .bool ha1, .int .i64 ba1, .bool to1, .list (.ints .i64 dw1), .list (Row.big (.agg [.int .i64, .bool]) up1)]))],todo:=[.code a21.code],defs:=[],rnd:=none,ret:=false,res:=[ARes.tmp 4] }
def ZHY(at0 mo:Int)(dn:List AV)(ha:Bool)(ba:Int)(to:Bool)(dw:List Int)(up:List AV)(at1 mo1:Int)(dn1:List AV)(ha1:Bool)(ba1:Int)(to1:Bool)(dw1:List Int)(up1:List AV):List AFrame:=[(Zzu at0 mo dn ha ba to dw up at1 mo1 dn1 ha1 ba1 to1 dw1 up1)]
theorem Zwr(at0 mo:Int)(dn:List AV)(ha:Bool)(ba:Int)(to:Bool)(dw:List Int)(up:List AV)(at1 mo1:Int)(dn1:List AV)(ha1:Bool)(ba1:Int)(to1:Bool)(dw1:List Int)(up1:List AV):Zar tab 21 [AV.agg (Row.gen [.int .i64 at0, .int .i64 mo, .list (Row.big (.agg [.int .i64, .int .i64]) dn), .bool ha, .int .i64 ba, .bool to, .list (.ints .i64 dw), .list (Row.big (.agg [.int .i64, .bool]) up)]),AV.agg (Row.gen [.int .i64 at1, .int .i64 mo1, .list (Row.big (.agg [.int .i64, .int .i64]) dn1), .bool ha1, .int .i64 ba1, .bool to1, .list (.ints .i64 dw1), .list (Row.big (.agg [.int .i64, .bool]) up1)])]=some (Zzu at0 mo dn ha ba to dw up at1 mo1 dn1 ha1 ba1 to1 dw1 up1):=rfl
def ZgK(at0 mo:Int)(dn:List AV)(ha:Bool)(ba:Int)(to:Bool)(dw:List Int)(up:List AV)(at1 mo1:Int)(dn1:List AV)(ha1:Bool)(ba1:Int)(to1:Bool)(dw1:List Int)(up1:List AV)(n0:Int):List AFrame:=[{ fn:=21,N:=82,env:=[(2,AV.ptr 21003 0 0 0),(3,AV.ptr 21004 0 0 0),(5,AV.int .i64 n0)],todo:=.code (ACode.gh [] ZCM)::ZFk,defs:=[],rnd:=none,ret:=false,res:=[ARes.tmp 4] }]
def Ze3(at0 mo:Int)(dn:List AV)(ha:Bool)(ba:Int)(to:Bool)(dw:List Int)(up:List AV)(at1 mo1:Int)(dn1:List AV)(ha1:Bool)(ba1:Int)(to1:Bool)(dw1:List Int)(up1:List AV)(n0:Int):Zac:=[(21003,{ base:=0,blks:=[Blk.row 37 8 (Row.gen [AV.agg (Row.gen [AV.int .i64 at0,AV.int .i64 mo,AV.list (Row.big (.agg [.int .i64, .int .i64]) dn),AV.bool ha,AV.int .i64 ba,AV.bool to,AV.list (.ints .i64 dw),AV.list (Row.big (.agg [.int .i64, .bool]) up)])])] }),(21004,{ base:=0,blks:=[Blk.row 37 8 (Row.gen [AV.agg (Row.gen [AV.int .i64 at1,AV.int .i64 mo1,AV.list (Row.big (.agg [.int .i64, .int .i64]) dn1),AV.bool ha1,AV.int .i64 ba1,AV.bool to1,AV.list (.ints .i64 dw1),AV.list (Row.big (.agg [.int .i64, .bool]) up1)])])] })]
abbrev Zir(at0 mo:Int)(dn:List AV)(ha:Bool)(ba:Int)(to:Bool)(dw:List Int)(up:List AV)(at1 mo1:Int)(dn1:List AV)(ha1:Bool)(ba1:Int)(to1:Bool)(dw1:List Int)(up1:List AV)(n0:Int):List AFrame×Zac:=(ZgK at0 mo dn ha ba to dw up at1 mo1 dn1 ha1 ba1 to1 dw1 up1 n0,Ze3 at0 mo dn ha ba to dw up at1 mo1 dn1 ha1 ba1 to1 dw1 up1 n0)
def Zzi(A:Ar)(K:KT)(F:FT)(at0 mo:Int)(dn:List AV)(ha:Bool)(ba:Int)(to:Bool)(dw:List Int)(up:List AV)(at1 mo1:Int)(dn1:List AV)(ha1:Bool)(ba1:Int)(to1:Bool)(dw1:List Int)(up1:List AV):Prop:=bB (A.not (A.eq at0 at1)) (F (AV.bool false) (none)) (bB (A.not (A.eq mo mo1)) (F (AV.bool false) (none)) (rB [decide (List.length dn≤1000000)] (bB (A.not (ZbV eq2 dn dn1)) (F (AV.bool false) (none)) (bB (A.not (Decidable.rec (fun h=>(fun x=>false) h) (fun h=>(fun x=>true) h) (instDecidableEqBool ha ha1))) (F (AV.bool false) (none)) (bB (A.not (A.eq ba ba1)) (F (AV.bool false) (none)) (bB (A.not (Decidable.rec (fun h=>(fun x=>false) h) (fun h=>(fun x=>true) h) (instDecidableEqBool to to1))) (F (AV.bool false) (none)) (rB [decide (List.length dw≤1000000)] (bB (A.not (decide (dw=dw1))) (F (AV.bool false) (none)) (bB (A.not (A.eq (A.int (A.lenA up)) (A.int (A.lenA up1)))) (F (AV.bool false) (none)) (K (Zir (at0) (mo) (dn) (ha) (ba) (to) (dw) (up) (at1) (mo1) (dn1) (ha1) (ba1) (to1) (dw1) (up1) (0))))))))))))
theorem ZFu{A:Ar}{K:KT}{F:FT}{M:MT}{at0 mo:Int}{dn:List AV}{ha:Bool}{ba:Int}{to:Bool}{dw:List Int}{up:List AV}{at1 mo1:Int}{dn1:List AV}{ha1:Bool}{ba1:Int}{to1:Bool}{dw1:List Int}{up1:List AV} :ZaH A tab Ba 21 K F M (.run 15 (.tf (.ty (.ty (.ty (.ty (.ty (.run 1 (.ty (.ty (.ty (.ty (.ty (.ty (.ty (.run 1 (.ty (.ty (.ty (.ty (.ty (.ty (.run 1 (.ty (.ty (.ty (.ty (.ty (.ty (.run 1 (.ty (.ty (.ty (.ty (.ty (.ty (.run 1 (.ty (.ty (.ty (.ty (.ty (.ty (.ty (.run 1 (.ty (.ty (.ty (.ty (.ty (.ty (.ty (.ty (.run 2 (.ty (.run 5 (.fn))))))))))))))))))))))))))))))))))))))))))))))))))))))) (.fy (.fy (.fy (.fy (.fy (.run 1 (.tf (.ty (.ty (.ty (.ty (.ty (.ty (.run 1 (.ty (.ty (.ty (.ty (.ty (.ty (.run 1 (.ty (.ty (.ty (.ty (.ty (.ty (.run 1 (.ty (.ty (.ty (.ty (.ty (.ty (.run 1 (.ty (.ty (.ty (.ty (.ty (.ty (.ty (.run 1 (.ty (.ty (.ty (.ty (.ty (.ty (.ty (.ty (.run 2 (.ty (.run 5 (.fn)))))))))))))))))))))))))))))))))))))))))))))))) (.fy (.fy (.fy (.fy (.fy (.fy (.run 1 (.tf (.ty (.ty (.ty (.ty (.ty (.run 1 (.ty (.ty (.ty (.ty (.ty (.ty (.run 1 (.ty (.ty (.ty (.ty (.ty (.ty (.run 1 (.ty (.ty (.ty (.ty (.ty (.ty (.ty (.run 1 (.ty (.ty (.ty (.ty (.ty (.ty (.ty (.ty (.run 2 (.ty (.run 5 (.fn)))))))))))))))))))))))))))))))))))))))) (.fy (.fy (.fy (.fy (.fy (.run 1 (.tf (.ty (.ty (.ty (.ty (.ty (.run 1 (.ty (.ty (.ty (.ty (.ty (.ty (.run 1 (.ty (.ty (.ty (.ty (.ty (.ty (.ty (.run 1 (.ty (.ty (.ty (.ty (.ty (.ty (.ty (.ty (.run 2 (.ty (.run 5 (.fn))))))))))))))))))))))))))))))))) (.fy (.fy (.fy (.fy (.fy (.run 1 (.tf (.ty (.ty (.ty (.ty (.ty (.run 1 (.ty (.ty (.ty (.ty (.ty (.ty (.ty (.run 1 (.ty (.ty (.ty (.ty (.ty (.ty (.ty (.ty (.run 2 (.ty (.run 5 (.fn)))))))))))))))))))))))))) (.fy (.fy (.fy (.fy (.fy (.run 1 (.tf (.ty (.ty (.ty (.ty (.ty (.ty (.run 1 (.ty (.ty (.ty (.ty (.ty (.ty (.ty (.ty (.run 2 (.ty (.run 5 (.fn))))))))))))))))))) (.fy (.fy (.fy (.fy (.fy (.fy (.run 1 (.tf (.ty (.ty (.ty (.ty (.ty (.ty (.ty (.run 2 (.ty (.run 5 (.fn))))))))))) (.fy (.fy (.fy (.fy (.fy (.fy (.fy (.run 2 (.tf (.run 5 (.fn)) (.run 9 (.hd))))))))))))))))))))))))))))))))))))))))))))))))))))))))) (ZHY at0 mo dn ha ba to dw up at1 mo1 dn1 ha1 ba1 to1 dw1 up1) []=Zzi A K F at0 mo dn ha ba to dw up at1 mo1 dn1 ha1 ba1 to1 dw1 up1:=by kernel_rfl
def ZfB(A:Ar)(K:KT)(F:FT)(at0 mo:Int)(dn:List AV)(ha:Bool)(ba:Int)(to:Bool)(dw:List Int)(up:List AV)(at1 mo1:Int)(dn1:List AV)(ha1:Bool)(ba1:Int)(to1:Bool)(dw1:List Int)(up1:List AV)(n0:Int):Prop:=bB (A.lt n0 (A.int (A.lenA up))) (rB [Zag (Zag (A.le 0 n0) (Nat.blt (A.nat n0) (A.lenA up1))) true,Zag (Zag (A.le 0 n0) (Nat.blt (A.nat n0) (A.lenA up))) true] (bB (A.not (Zag (A.eq ((A.nthA up (A.nat n0)).cellAt 0).toI ((A.nthA up1 (A.nat n0)).cellAt 0).toI) (Decidable.rec (fun h=>(fun x=>false) h) (fun h=>(fun x=>true) h) (instDecidableEqBool ((A.nthA up (A.nat n0)).cellAt 1).toB ((A.nthA up1 (A.nat n0)).cellAt 1).toB)))) (F (AV.bool false) (none)) (rB [A.inR .i64 (A.add n0 1)] (K (Zir (at0) (mo) (dn) (ha) (ba) (to) (dw) (up) (at1) (mo1) (dn1) (ha1) (ba1) (to1) (dw1) (up1) (A.add n0 1)))))) (F (AV.bool true) (none))
theorem Zin{A:Ar}{K:KT}{F:FT}{M:MT}{at0 mo:Int}{dn:List AV}{ha:Bool}{ba:Int}{to:Bool}{dw:List Int}{up:List AV}{at1 mo1:Int}{dn1:List AV}{ha1:Bool}{ba1:Int}{to1:Bool}{dw1:List Int}{up1:List AV}{n0:Int} :ZaH A tab Ba 21 K F M (.run 10 (.tf (.run 6 (.tf (.run 5 (.fn)) (.run 9 (.hd)))) (.run 6 (.fn)))) (ZgK at0 mo dn ha ba to dw up at1 mo1 dn1 ha1 ba1 to1 dw1 up1 n0) (Ze3 at0 mo dn ha ba to dw up at1 mo1 dn1 ha1 ba1 to1 dw1 up1 n0)=ZfB A K F at0 mo dn ha ba to dw up at1 mo1 dn1 ha1 ba1 to1 dw1 up1 n0:=by kernel_rfl
def Zs0(ms ks rs:List AV)(a t:Int)(xs:List Int)(s:List UInt8)(r1 r2 r3 r4 b:Int):AFrame:={ fn:=122,N:=26,env:=[(0,AV.eptr (AV.agg (Row.gen [.list (Row.big .str ms), .list (Row.big (.agg [.str, .int .i64]) ks), .list (Row.big (.agg [.str, .int .i64, .int .i64, .int .i64, .int .i64]) rs), .int .i64 a, .int .i64 t, .list (.ints .i64 xs)])) 0),(1,AV.agg (Row.gen [.str s, .int .i64 r1, .int .i64 r2, .int .i64 r3, .int .i64 r4])),(2,AV.int .i64 b)],todo:=[.code a122.code],defs:=[],rnd:=none,ret:=false,res:=[ARes.tmp 6] }
def ZEi(ms ks rs:List AV)(a t:Int)(xs:List Int)(s:List UInt8)(r1 r2 r3 r4 b:Int):List AFrame:=[(Zs0 ms ks rs a t xs s r1 r2 r3 r4 b)]
theorem ZqB(ms ks rs:List AV)(a t:Int)(xs:List Int)(s:List UInt8)(r1 r2 r3 r4 b:Int):Zar tab 122 [AV.eptr (AV.agg (Row.gen [.list (Row.big .str ms), .list (Row.big (.agg [.str, .int .i64]) ks), .list (Row.big (.agg [.str, .int .i64, .int .i64, .int .i64, .int .i64]) rs), .int .i64 a, .int .i64 t, .list (.ints .i64 xs)])) 0,AV.agg (Row.gen [.str s, .int .i64 r1, .int .i64 r2, .int .i64 r3, .int .i64 r4]),AV.int .i64 b]=some (Zs0 ms ks rs a t xs s r1 r2 r3 r4 b):=rfl
def ZsD(A:Ar)(K:KT)(F:FT)(ms ks rs:List AV)(a t:Int)(xs:List Int)(s:List UInt8)(r1 r2 r3 r4 b:Int):Prop:=qB [A.eq r2 (-1),A.eq r1 b] (F (AV.bool true) (none)) (qB [!A.eq r2 (-1),A.eq r1 b] (F (AV.bool (A.eq r2 a)) (none)) (rB [!A.eq r1 b] (F (AV.bool false) (none))))
theorem ZAF{A:Ar}{K:KT}{F:FT}{M:MT}{ms ks rs:List AV}{a t:Int}{xs:List Int}{s:List UInt8}{r1 r2 r3 r4 b:Int} :ZaH A tab Ba 122 K F M (.run 6 (.alt [true,true] (.run 2 (.fn)) (.alt [true,false] (.run 2 (.fn)) (.fy (.run 2 (.fn)))))) (ZEi ms ks rs a t xs s r1 r2 r3 r4 b) []=ZsD A K F ms ks rs a t xs s r1 r2 r3 r4 b:=by kernel_rfl
end Go.Proofs.YtkeoeooghhjibaaGreatDoor
/- Contracts as a list. No condition. -/
namespace Go.Proofs.YtkeoeooghhjibaaGreatDoor
theorem ZGP(a b:Bool):(Decidable.rec (fun h=>(fun x=>false) h) (fun h=>(fun x=>true) h) (instDecidableEqBool a b):Bool)=decide (a=b):=by cases a<;>cases b<;>rfl
def exM(ks:List AV)(a k:Int):Int:=if Zaj ks k 1= -1 then a else Zaj ks k 1
theorem Zr6(ms ks rs:List AV)(a b:Int)(xs:List Int)(k t:Int)(h:xs.length≤1000000∧0≤k∧k<ks.length∧k<xs.length):Zao Tryz.prog 78 [.agg (.gen [.list (.big .str ms), .list (.big (.agg [.str, .int .i64]) ks), .list (.big (.agg [.str, .int .i64, .int .i64, .int .i64, .int .i64]) rs)]), .agg (.gen [.int .i64 a, .int .i64 b, .list (.ints .i64 xs)]), .int .i64 k, .int .i64 t] (.agg (.gen [.int .i64 (exM ks a k), .int .i64 t, .list (.ints .i64 (xs.set k.toNat t))])) none:=
 start (Zxl ms ks rs a b xs k t) fun C hC=>tgo hC Zno ZD9 (by
  have e:((ks.getD k.toNat .top).cellAt 1).toI=Zaj ks k 1:=rfl
  have h1:k.toNat<ks.length:=by omega
  have h2:k.toNat<xs.length:=by omega
  by_cases hf:Zaj ks k 1= -1<;>simp[-List.getD_eq_getElem?_getD,ZyB,e,h,h1,h2,hf,exM])
def ZFl(a b r1 r2:Int):Bool:=decide (r1=b∧(r2= -1∨r2=a))
theorem ZpG(ms ks rs:List AV)(a t:Int)(xs:List Int)(s:List UInt8)(r1 r2 r3 r4 b:Int):Zao Tryz.prog 122 [.eptr (.agg (.gen [.list (.big .str ms), .list (.big (.agg [.str, .int .i64]) ks), .list (.big (.agg [.str, .int .i64, .int .i64, .int .i64, .int .i64]) rs), .int .i64 a, .int .i64 t, .list (.ints .i64 xs)])) 0, .agg (.gen [.str s, .int .i64 r1, .int .i64 r2, .int .i64 r3, .int .i64 r4]), .int .i64 b] (.bool (ZFl a b r1 r2)) none:=
 start (ZqB ms ks rs a t xs s r1 r2 r3 r4 b) fun C hC=>tgo hC Zno ZAF (by
  by_cases h1:r1=b<;>by_cases h2:r2= -1<;>by_cases h3:r2=a<;>simp_all[ZsD,ZFl])
def eqR(x y:AV):Bool:=decide ((x.cellAt 0).toI=(y.cellAt 0).toI∧(x.cellAt 1).toB=(y.cellAt 1).toB)
theorem Zrz(x:AV):eqR x x=true:=by simp[eqR]
def Zg4(at0 mo:Int)(dn:List AV)(ha:Bool)(ba:Int)(to:Bool)(dw:List Int)(up:List AV)(at1 mo1:Int)(dn1:List AV)(ha1:Bool)(ba1:Int)(to1:Bool)(dw1:List Int)(up1:List AV):Bool:=
 decide (at0=at1∧mo=mo1∧ZbV eq2 dn dn1=true∧ha=ha1∧ba=ba1∧to=to1∧dw=dw1)&&ZbV eqR up up1
theorem Zkq{C:Ctx}(hC:C.P=Tryz.prog)(at0 mo:Int)(dn:List AV)(ha:Bool)(ba:Int)(to:Bool)(dw:List Int)(up:List AV)(at1 mo1:Int)(dn1:List AV)(ha1:Bool)(ba1:Int)(to1:Bool)(dw1:List Int)(up1:List AV)(hl:up.length≤1000000∧up.length=up1.length):∀m k:Nat,k+m=up.length→Ev C (ZgK at0 mo dn ha ba to dw up at1 mo1 dn1 ha1 ba1 to1 dw1 up1 k) (Ze3 at0 mo dn ha ba to dw up at1 mo1 dn1 ha1 ba1 to1 dw1 up1 k) (ZcD 21 (.bool (ZbV eqR (up.drop k) (up1.drop k))) none)
 |0,k,hk=>tgo hC Zno Zin (by
  rw[List.drop_of_length_le (by omega),List.drop_of_length_le (by omega)]
  simp[ZfB,show ¬(k:Int)<up.length by omega,ZbV])
 |m+1,k,hk=>by
  have ih:=Zkq hC at0 mo dn ha ba to dw up at1 mo1 dn1 ha1 ba1 to1 dw1 up1 hl m (k+1) (by omega)
  rw[ZqM (show k<up.length by omega),ZqM (show k<up1.length by omega),ZbV]
  refine tgo hC Zno Zin ?_
  unfold ZfB
  simp only[ZGP]
  by_cases h:eqR (up.getD k .top) (up1.getD k .top)=true
  ·rw[h,Bool.true_and]
   simp[-List.getD_eq_getElem?_getD,eqR]at h
   simp[-List.getD_eq_getElem?_getD,show(k:Int)<up.length by omega,show k<up.length by omega,show k<up1.length by omega,h]
   exact⟨by omega,by simpa using ih⟩
  ·rw[(by simpa using h:eqR (up.getD k .top) (up1.getD k .top)=false),Bool.false_and]
   simp only[eqR,decide_eq_true_eq,not_and]at h
   simp[-List.getD_eq_getElem?_getD,show(k:Int)<up.length by omega,show k<up.length by omega,show k<up1.length by omega]
   exact fun h1 h2=>absurd (by simpa using h2) (h h1)
theorem Zkg(at0 mo:Int)(dn:List AV)(ha:Bool)(ba:Int)(to:Bool)(dw:List Int)(up:List AV)(at1 mo1:Int)(dn1:List AV)(ha1:Bool)(ba1:Int)(to1:Bool)(dw1:List Int)(up1:List AV)(hl:dn.length≤1000000∧dw.length≤1000000∧up.length≤1000000):Zao Tryz.prog 21 [.agg (.gen [.int .i64 at0, .int .i64 mo, .list (.big (.agg [.int .i64, .int .i64]) dn), .bool ha, .int .i64 ba, .bool to, .list (.ints .i64 dw), .list (.big (.agg [.int .i64, .bool]) up)]), .agg (.gen [.int .i64 at1, .int .i64 mo1, .list (.big (.agg [.int .i64, .int .i64]) dn1), .bool ha1, .int .i64 ba1, .bool to1, .list (.ints .i64 dw1), .list (.big (.agg [.int .i64, .bool]) up1)])] (.bool (Zg4 at0 mo dn ha ba to dw up at1 mo1 dn1 ha1 ba1 to1 dw1 up1)) none:=
 start (Zwr at0 mo dn ha ba to dw up at1 mo1 dn1 ha1 ba1 to1 dw1 up1) fun C hC=>tgo hC Zno ZFu (by
  unfold Zzi Zg4
  simp only[ZGP]
  by_cases h1:at0=at1
  ·by_cases h2:mo=mo1
   ·by_cases h3:ZbV eq2 dn dn1=true
    ·by_cases h4:ha=ha1
     ·by_cases h5:ba=ba1
      ·by_cases h6:to=to1
       ·by_cases h7:dw=dw1
        ·by_cases h8:up.length=up1.length
         ·have:=Zkq hC at0 mo dn ha ba to dw up at1 mo1 dn1 ha1 ba1 to1 dw1 up1 ⟨hl.2.2,h8⟩ up.length 0 (by omega)
          simp only[List.drop_zero]at this
          subst h1 h2 h4 h5 h6 h7
          simp[hl,h3,h8]
          simpa using this
         ·subst h1 h2 h4 h5 h6 h7
          simp[hl,h3,ZlU h8,show ¬((up.length:Int)=up1.length) by omega]
        ·simp[hl,h1,h2,h3,h4,h5,h6,h7]
       ·simp[hl,h1,h2,h3,h4,h5,h6]
      ·simp[hl,h1,h2,h3,h4,h5]
     ·simp[hl,h1,h2,h3,h4]
    ·simp[hl,h1,h2,h3]
   ·simp[h1,h2]
  ·simp[h1])
def k78:Ctr:=⟨78,0,fun _ a=>match a with |[.agg (.gen [.list (.big .str _), .list (.big (.agg [.str, .int .i64]) ks), .list (.big (.agg [.str, .int .i64, .int .i64, .int .i64, .int .i64]) _)]), .agg (.gen [.int .i64 a, .int .i64 _, .list (.ints .i64 xs)]), .int .i64 k, .int .i64 t]=>some (decide (xs.length≤1000000∧0≤k∧k<ks.length∧k<xs.length), .agg (.gen [.int .i64 (exM ks a k), .int .i64 t, .list (.ints .i64 (xs.set k.toNat t))]),none) |_=>none⟩
theorem ZxP:k78.OK Tryz.prog:=fun pa args r fr h=>by
 simp only[k78]at h
 split at h
 ·simp only[Option.some.injEq,Prod.mk.injEq,decide_eq_true_eq]at h
  obtain⟨h0,rfl,rfl⟩:=h
  exact Zr6 _ _ _ _ _ _ _ _ h0
 ·cases h
def k122:Ctr:=⟨122,0,fun _ a=>match a with |[.eptr (.agg (.gen [.list (.big .str _), .list (.big (.agg [.str, .int .i64]) _), .list (.big (.agg [.str, .int .i64, .int .i64, .int .i64, .int .i64]) _), .int .i64 a, .int .i64 _, .list (.ints .i64 _)])) 0, .agg (.gen [.str _, .int .i64 r1, .int .i64 r2, .int .i64 _, .int .i64 _]), .int .i64 b]=>some (true, .bool (ZFl a b r1 r2),none) |_=>none⟩
theorem ZvP:k122.OK Tryz.prog:=fun pa args r fr h=>by
 simp only[k122]at h
 split at h
 ·cases h
  exact ZpG _ _ _ _ _ _ _ _ _ _ _ _
 ·cases h
def k21:Ctr:=⟨21,0,fun _ a=>match a with |[.agg (.gen [.int .i64 at0, .int .i64 mo, .list (.big (.agg [.int .i64, .int .i64]) dn), .bool ha, .int .i64 ba, .bool to, .list (.ints .i64 dw), .list (.big (.agg [.int .i64, .bool]) up)]), .agg (.gen [.int .i64 at1, .int .i64 mo1, .list (.big (.agg [.int .i64, .int .i64]) dn1), .bool ha1, .int .i64 ba1, .bool to1, .list (.ints .i64 dw1), .list (.big (.agg [.int .i64, .bool]) up1)])]=>some (decide (dn.length≤1000000∧dw.length≤1000000∧up.length≤1000000), .bool (Zg4 at0 mo dn ha ba to dw up at1 mo1 dn1 ha1 ba1 to1 dw1 up1),none) |_=>none⟩
theorem ZAl:k21.OK Tryz.prog:=fun pa args r fr h=>by
 simp only[k21]at h
 split at h
 ·simp only[Option.some.injEq,Prod.mk.injEq,decide_eq_true_eq]at h
  obtain⟨h0,rfl,rfl⟩:=h
  exact Zkg _ _ _ _ _ _ _ _ _ _ _ _ _ _ _ _ h0
 ·cases h
def Bb:List Ctr:=[k78,k122,k21]++Ba
theorem ZqF:ZaD Tryz.prog Bb:=⟨ZxP,⟨ZvP,⟨ZAl,Zno⟩⟩⟩
end Go.Proofs.YtkeoeooghhjibaaGreatDoor
/- Paths of functions, printed by the explorer (Gx). No condition. -/
namespace Go.Proofs.YtkeoeooghhjibaaGreatDoor
set_option maxRecDepth 100000
set_option linter.unusedVariables false
def ZBM(ms ks rs:List AV)(a b:Int)(xs:List Int)(q:Int):AFrame:={ fn:=91,N:=66,env:=[(0,AV.eptr (AV.agg (Row.gen [.list (Row.big .str ms), .list (Row.big (.agg [.str, .int .i64]) ks), .list (Row.big (.agg [.str, .int .i64, .int .i64, .int .i64, .int .i64]) rs), .int .i64 a, .int .i64 b, .list (.ints .i64 xs)])) 0),(1,AV.int .i64 q)],todo:=[.code a91.code],defs:=[],rnd:=none,ret:=false,res:=[ARes.tmp 4] }
def ZIM(ms ks rs:List AV)(a b:Int)(xs:List Int)(q:Int):List AFrame:=[(ZBM ms ks rs a b xs q)]
theorem Zvg(ms ks rs:List AV)(a b:Int)(xs:List Int)(q:Int):Zar tab 91 [AV.eptr (AV.agg (Row.gen [.list (Row.big .str ms), .list (Row.big (.agg [.str, .int .i64]) ks), .list (Row.big (.agg [.str, .int .i64, .int .i64, .int .i64, .int .i64]) rs), .int .i64 a, .int .i64 b, .list (.ints .i64 xs)])) 0,AV.int .i64 q]=some (ZBM ms ks rs a b xs q):=rfl
def ZeY(ms ks rs:List AV)(a b:Int)(xs:List Int)(q n0 n1:Int):List AFrame:=[{ fn:=91,N:=66,env:=[(0,AV.eptr (AV.agg (Row.gen [.list (Row.big .str ms), .list (Row.big (.agg [.str, .int .i64]) ks), .list (Row.big (.agg [.str, .int .i64, .int .i64, .int .i64, .int .i64]) rs), .int .i64 a, .int .i64 b, .list (.ints .i64 xs)])) 0),(1,AV.int .i64 q),(11,AV.list (Row.big (.agg [.str, .int .i64, .int .i64, .int .i64, .int .i64]) rs)),(12,AV.int .i64 n0),(13,AV.int .i64 n1)],todo:=.code (ACode.gh [] Zyy)::ZEG,defs:=[],rnd:=none,ret:=false,res:=[ARes.tmp 4] }]
def ZdW(ms ks rs:List AV)(a b:Int)(xs:List Int)(q n0 n1:Int):Zac:=[]
abbrev ZbG(ms ks rs:List AV)(a b:Int)(xs:List Int)(q n0 n1:Int):List AFrame×Zac:=(ZeY ms ks rs a b xs q n0 n1,ZdW ms ks rs a b xs q n0 n1)
def ZyR(A:Ar)(K:KT)(F:FT)(ms ks rs:List AV)(a b:Int)(xs:List Int)(q:Int):Prop:=K (ZbG (ms) (ks) (rs) (a) (b) (xs) (q) (A.int (A.lenA rs)) (0))
theorem ZDz{A:Ar}{K:KT}{F:FT}{M:MT}{ms ks rs:List AV}{a b:Int}{xs:List Int}{q:Int} :ZaH A tab Bb 91 K F M (.run 18 (.hd)) (ZIM ms ks rs a b xs q) []=ZyR A K F ms ks rs a b xs q:=by kernel_rfl
def ZfA(A:Ar)(K:KT)(F:FT)(ms ks rs:List AV)(a b:Int)(xs:List Int)(q n0 n1:Int):Prop:=bB (A.lt n1 n0) (rB [Zag (Zag (A.le 0 n1) (Nat.blt (A.nat n1) (A.lenA rs))) true] (qB [A.eq ((A.nthA rs (A.nat n1)).cellAt 2).toI (-1),A.eq ((A.nthA rs (A.nat n1)).cellAt 1).toI q] (rB [!A.not true] (qB [A.eq ((A.nthA rs (A.nat n1)).cellAt 3).toI (-1)] (rB [Zag (Zag (A.le 0 n1) (Nat.blt (A.nat n1) (A.lenA rs))) true] (F (AV.eptr (AV.agg (Row.gen [.str ((A.nthA rs (A.nat n1)).cellAt 0).toS, .int .i64 ((A.nthA rs (A.nat n1)).cellAt 1).toI, .int .i64 ((A.nthA rs (A.nat n1)).cellAt 2).toI, .int .i64 ((A.nthA rs (A.nat n1)).cellAt 3).toI, .int .i64 ((A.nthA rs (A.nat n1)).cellAt 4).toI])) 0) (none))) (qB [A.inR .i64 (A.sub b (A.nth xs (A.nat ((A.nthA rs (A.nat n1)).cellAt 3).toI))),Zag (Zag (A.le 0 ((A.nthA rs (A.nat n1)).cellAt 3).toI) (Nat.blt (A.nat ((A.nthA rs (A.nat n1)).cellAt 3).toI) (A.len xs))) true,A.not (A.eq (A.nth xs (A.nat ((A.nthA rs (A.nat n1)).cellAt 3).toI)) (-1)),Zag (Zag (A.le 0 ((A.nthA rs (A.nat n1)).cellAt 3).toI) (Nat.blt (A.nat ((A.nthA rs (A.nat n1)).cellAt 3).toI) (A.len xs))) true,!A.eq ((A.nthA rs (A.nat n1)).cellAt 3).toI (-1)] (bB (A.lt (A.sub b (A.nth xs (A.nat ((A.nthA rs (A.nat n1)).cellAt 3).toI))) ((A.nthA rs (A.nat n1)).cellAt 4).toI) (rB [Zag (Zag (A.le 0 n1) (Nat.blt (A.nat n1) (A.lenA rs))) true] (F (AV.eptr (AV.agg (Row.gen [.str ((A.nthA rs (A.nat n1)).cellAt 0).toS, .int .i64 ((A.nthA rs (A.nat n1)).cellAt 1).toI, .int .i64 ((A.nthA rs (A.nat n1)).cellAt 2).toI, .int .i64 ((A.nthA rs (A.nat n1)).cellAt 3).toI, .int .i64 ((A.nthA rs (A.nat n1)).cellAt 4).toI])) 0) (none))) (rB [A.inR .i64 (A.add n1 1)] (K (ZbG (ms) (ks) (rs) (a) (b) (xs) (q) (n0) (A.add n1 1))))) (rB [!A.not (A.eq (A.nth xs (A.nat ((A.nthA rs (A.nat n1)).cellAt 3).toI)) (-1)),Zag (Zag (A.le 0 ((A.nthA rs (A.nat n1)).cellAt 3).toI) (Nat.blt (A.nat ((A.nthA rs (A.nat n1)).cellAt 3).toI) (A.len xs))) true,!A.eq ((A.nthA rs (A.nat n1)).cellAt 3).toI (-1)] (rB [A.inR .i64 (A.add n1 1)] (K (ZbG (ms) (ks) (rs) (a) (b) (xs) (q) (n0) (A.add n1 1)))))))) (qB [!A.eq ((A.nthA rs (A.nat n1)).cellAt 2).toI (-1),A.eq ((A.nthA rs (A.nat n1)).cellAt 1).toI q] (bB (A.not (A.eq ((A.nthA rs (A.nat n1)).cellAt 2).toI a)) (rB [A.inR .i64 (A.add n1 1)] (K (ZbG (ms) (ks) (rs) (a) (b) (xs) (q) (n0) (A.add n1 1)))) (qB [A.eq ((A.nthA rs (A.nat n1)).cellAt 3).toI (-1)] (rB [Zag (Zag (A.le 0 n1) (Nat.blt (A.nat n1) (A.lenA rs))) true] (F (AV.eptr (AV.agg (Row.gen [.str ((A.nthA rs (A.nat n1)).cellAt 0).toS, .int .i64 ((A.nthA rs (A.nat n1)).cellAt 1).toI, .int .i64 ((A.nthA rs (A.nat n1)).cellAt 2).toI, .int .i64 ((A.nthA rs (A.nat n1)).cellAt 3).toI, .int .i64 ((A.nthA rs (A.nat n1)).cellAt 4).toI])) 0) (none))) (qB [A.inR .i64 (A.sub b (A.nth xs (A.nat ((A.nthA rs (A.nat n1)).cellAt 3).toI))),Zag (Zag (A.le 0 ((A.nthA rs (A.nat n1)).cellAt 3).toI) (Nat.blt (A.nat ((A.nthA rs (A.nat n1)).cellAt 3).toI) (A.len xs))) true,A.not (A.eq (A.nth xs (A.nat ((A.nthA rs (A.nat n1)).cellAt 3).toI)) (-1)),Zag (Zag (A.le 0 ((A.nthA rs (A.nat n1)).cellAt 3).toI) (Nat.blt (A.nat ((A.nthA rs (A.nat n1)).cellAt 3).toI) (A.len xs))) true,!A.eq ((A.nthA rs (A.nat n1)).cellAt 3).toI (-1)] (bB (A.lt (A.sub b (A.nth xs (A.nat ((A.nthA rs (A.nat n1)).cellAt 3).toI))) ((A.nthA rs (A.nat n1)).cellAt 4).toI) (rB [Zag (Zag (A.le 0 n1) (Nat.blt (A.nat n1) (A.lenA rs))) true] (F (AV.eptr (AV.agg (Row.gen [.str ((A.nthA rs (A.nat n1)).cellAt 0).toS, .int .i64 ((A.nthA rs (A.nat n1)).cellAt 1).toI, .int .i64 ((A.nthA rs (A.nat n1)).cellAt 2).toI, .int .i64 ((A.nthA rs (A.nat n1)).cellAt 3).toI, .int .i64 ((A.nthA rs (A.nat n1)).cellAt 4).toI])) 0) (none))) (rB [A.inR .i64 (A.add n1 1)] (K (ZbG (ms) (ks) (rs) (a) (b) (xs) (q) (n0) (A.add n1 1))))) (rB [!A.not (A.eq (A.nth xs (A.nat ((A.nthA rs (A.nat n1)).cellAt 3).toI)) (-1)),Zag (Zag (A.le 0 ((A.nthA rs (A.nat n1)).cellAt 3).toI) (Nat.blt (A.nat ((A.nthA rs (A.nat n1)).cellAt 3).toI) (A.len xs))) true,!A.eq ((A.nthA rs (A.nat n1)).cellAt 3).toI (-1)] (rB [A.inR .i64 (A.add n1 1)] (K (ZbG (ms) (ks) (rs) (a) (b) (xs) (q) (n0) (A.add n1 1)))))))) (rB [!A.eq ((A.nthA rs (A.nat n1)).cellAt 1).toI q] (rB [A.not false] (rB [A.inR .i64 (A.add n1 1)] (K (ZbG (ms) (ks) (rs) (a) (b) (xs) (q) (n0) (A.add n1 1))))))))) (F (AV.val (Go.Value.pointer none)) (none))
theorem Ziw{A:Ar}{K:KT}{F:FT}{M:MT}{ms ks rs:List AV}{a b:Int}{xs:List Int}{q n0 n1:Int} :ZaH A tab Bb 91 K F M (.run 6 (.tf (.run 25 (.alt [true,true] (.run 5 (.fy (.run 2 (.alt [true] (.run 1 (.ty (.run 13 (.fn)))) (.alt [false,true] (.run 1 (.tf (.run 13 (.fn)) (.run 8 (.hd)))) (.alt [false,false] (.run 1 (.fy (.run 8 (.hd)))) (.no))))))) (.alt [true,false] (.run 5 (.tf (.run 7 (.hd)) (.run 2 (.alt [true] (.run 1 (.ty (.run 13 (.fn)))) (.alt [false,true] (.run 1 (.tf (.run 13 (.fn)) (.run 8 (.hd)))) (.alt [false,false] (.run 1 (.fy (.run 8 (.hd)))) (.no))))))) (.fy (.run 5 (.ty (.run 7 (.hd)))))))) (.run 6 (.fn)))) (ZeY ms ks rs a b xs q n0 n1) (ZdW ms ks rs a b xs q n0 n1)=ZfA A K F ms ks rs a b xs q n0 n1:=by kernel_rfl
end Go.Proofs.YtkeoeooghhjibaaGreatDoor
