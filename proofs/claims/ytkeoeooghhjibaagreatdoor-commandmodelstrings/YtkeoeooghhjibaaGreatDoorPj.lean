/- Paths of functions, printed by the explorer (Gx). No condition. -/
import Derived.Test.YtkeoeooghhjibaaGreatDoorCc
import Derived.KernelRfl
namespace Go.Proofs.YtkeoeooghhjibaaGreatDoor
set_option maxRecDepth 100000
set_option linter.unusedVariables false
def ZvY(ms ks rs:List AV)(i k:Int):AFrame:={ fn:=163,N:=16,env:=[(0,AV.int .i64 i),(1,AV.eptr (AV.fn 158 []) 0),(2,AV.eptr (AV.agg (Row.gen [.list (Row.big .str ms), .list (Row.big (.agg [.str, .int .i64]) ks), .list (Row.big (.agg [.str, .int .i64, .int .i64, .int .i64, .int .i64]) rs)])) 0),(3,AV.eptr (AV.int .i64 k) 0)],todo:=[.code a163.code],defs:=[],rnd:=none,ret:=false,res:=[ARes.tmp 5] }
def ZGr(ms ks rs:List AV)(i k:Int):List AFrame:=[(ZvY ms ks rs i k)]
theorem ZtQ(ms ks rs:List AV)(i k:Int):ZaA tab 163 [AV.int .i64 i,AV.eptr (AV.fn 158 []) 0,AV.eptr (AV.agg (Row.gen [.list (Row.big .str ms), .list (Row.big (.agg [.str, .int .i64]) ks), .list (Row.big (.agg [.str, .int .i64, .int .i64, .int .i64, .int .i64]) rs)])) 0,AV.eptr (AV.int .i64 k) 0]=some (ZvY ms ks rs i k):=rfl
theorem ZCZ(A:Ar)(ms ks rs:List AV)(i k:Int):Zbd A tab B2 8 [] 163 (ZGr ms ks rs i k) []=
 some (tr [3,3,5] [decide (-1000000≤k∧k≤1000000),Zae (Zae (A.le 0 i) (Nat.blt (A.nat i) (A.lenA ks))) true],
  AV.int .i64 (Zad (ZjO ((A.nthA ks (A.nat i)).cellAt 1).toI k) 6),none):=by kernel_rfl
def Zvk(ms ks rs:List AV)(i n m:Int):AFrame:={ fn:=165,N:=48,env:=[(0,AV.int .i64 i),(1,AV.eptr (AV.agg (Row.gen [.list (Row.big .str ms), .list (Row.big (.agg [.str, .int .i64]) ks), .list (Row.big (.agg [.str, .int .i64, .int .i64, .int .i64, .int .i64]) rs)])) 0),(2,AV.eptr (AV.int .i64 n) 0),(3,AV.eptr (AV.fn 158 []) 0),(4,AV.eptr (AV.int .i64 m) 0)],todo:=[.code a165.code],defs:=[],rnd:=none,ret:=false,res:=[ARes.tmp 6] }
def ZqM(ms ks rs:List AV)(i n m:Int):List AFrame:=[(Zvk ms ks rs i n m)]
theorem ZuP(ms ks rs:List AV)(i n m:Int):ZaA tab 165 [AV.int .i64 i,AV.eptr (AV.agg (Row.gen [.list (Row.big .str ms), .list (Row.big (.agg [.str, .int .i64]) ks), .list (Row.big (.agg [.str, .int .i64, .int .i64, .int .i64, .int .i64]) rs)])) 0,AV.eptr (AV.int .i64 n) 0,AV.eptr (AV.fn 158 []) 0,AV.eptr (AV.int .i64 m) 0]=some (Zvk ms ks rs i n m):=rfl
theorem ZBK(A:Ar)(ms ks rs:List AV)(i n m:Int):Zbd A tab B2 18 [true,true,true] 165 (ZqM ms ks rs i n m) []=
 some (tr [2,0,5,10,4,2,4,2,6,4] [decide (List.length [Zad (ZjO ((A.nthA rs (A.nat i)).cellAt 3).toI n) 6,Zad (Zan ((A.nthA rs (A.nat i)).cellAt 4).toI 1 1000000) 2,0]≤1000000),List.all [AV.int .i64 (Zad (ZjO ((A.nthA rs (A.nat i)).cellAt 3).toI n) 6),AV.int .i64 (Zad (Zan ((A.nthA rs (A.nat i)).cellAt 4).toI 1 1000000) 2),AV.int .i64 0] fun x=>AV.bx x&&Nat.beq (Zab A x) 1,A.not (A.eq ((A.nthA rs (A.nat i)).cellAt 3).toI (-1)),decide (-1000000≤n∧n≤1000000),ZjO ((A.nthA rs (A.nat i)).cellAt 2).toI m,decide (-1000000≤m∧m≤1000000),Zan ((A.nthA rs (A.nat i)).cellAt 1).toI 0 (A.sub n 1),A.inR .i64 (A.sub n 1),Zae (Zae (A.le 0 i) (Nat.blt (A.nat i) (A.lenA rs))) true],
  AV.int .i64 (Zao [Zad (ZjO ((A.nthA rs (A.nat i)).cellAt 3).toI n) 6,Zad (Zan ((A.nthA rs (A.nat i)).cellAt 4).toI 1 1000000) 2,0]),none):=by kernel_rfl
theorem ZBy(A:Ar)(ms ks rs:List AV)(i n m:Int):Zbd A tab B2 18 [true,true,false] 165 (ZqM ms ks rs i n m) []=
 some (tr [2,0,5,10,4,2,4,2,6,4] [decide (List.length [Zad (ZjO ((A.nthA rs (A.nat i)).cellAt 3).toI n) 6,Zad (Zan ((A.nthA rs (A.nat i)).cellAt 4).toI 1 1000000) 2,Zad (A.eq ((A.nthA rs (A.nat i)).cellAt 4).toI 1) 3]≤1000000),List.all [AV.int .i64 (Zad (ZjO ((A.nthA rs (A.nat i)).cellAt 3).toI n) 6),AV.int .i64 (Zad (Zan ((A.nthA rs (A.nat i)).cellAt 4).toI 1 1000000) 2),AV.int .i64 (Zad (A.eq ((A.nthA rs (A.nat i)).cellAt 4).toI 1) 3)] fun x=>AV.bx x&&Nat.beq (Zab A x) 1,!A.not (A.eq ((A.nthA rs (A.nat i)).cellAt 3).toI (-1)),decide (-1000000≤n∧n≤1000000),ZjO ((A.nthA rs (A.nat i)).cellAt 2).toI m,decide (-1000000≤m∧m≤1000000),Zan ((A.nthA rs (A.nat i)).cellAt 1).toI 0 (A.sub n 1),A.inR .i64 (A.sub n 1),Zae (Zae (A.le 0 i) (Nat.blt (A.nat i) (A.lenA rs))) true],
  AV.int .i64 (Zao [Zad (ZjO ((A.nthA rs (A.nat i)).cellAt 3).toI n) 6,Zad (Zan ((A.nthA rs (A.nat i)).cellAt 4).toI 1 1000000) 2,Zad (A.eq ((A.nthA rs (A.nat i)).cellAt 4).toI 1) 3]),none):=by kernel_rfl
theorem ZEk(A:Ar)(ms ks rs:List AV)(i n m:Int):Zbd A tab B2 18 [true,false,true] 165 (ZqM ms ks rs i n m) []=
 some (tr [2,0,5,15,2,4,2,6,4] [decide (List.length [6,Zad (Zan ((A.nthA rs (A.nat i)).cellAt 4).toI 1 1000000) 2,0]≤1000000),List.all [AV.int .i64 6,AV.int .i64 (Zad (Zan ((A.nthA rs (A.nat i)).cellAt 4).toI 1 1000000) 2),AV.int .i64 0] fun x=>AV.bx x&&Nat.beq (Zab A x) 1,A.not (A.eq ((A.nthA rs (A.nat i)).cellAt 3).toI (-1)),!ZjO ((A.nthA rs (A.nat i)).cellAt 2).toI m,decide (-1000000≤m∧m≤1000000),Zan ((A.nthA rs (A.nat i)).cellAt 1).toI 0 (A.sub n 1),A.inR .i64 (A.sub n 1),Zae (Zae (A.le 0 i) (Nat.blt (A.nat i) (A.lenA rs))) true],
  AV.int .i64 (Zao [6,Zad (Zan ((A.nthA rs (A.nat i)).cellAt 4).toI 1 1000000) 2,0]),none):=by kernel_rfl
theorem ZBA(A:Ar)(ms ks rs:List AV)(i n m:Int):Zbd A tab B2 18 [true,false,false] 165 (ZqM ms ks rs i n m) []=
 some (tr [2,0,5,15,2,4,2,6,4] [decide (List.length [6,Zad (Zan ((A.nthA rs (A.nat i)).cellAt 4).toI 1 1000000) 2,Zad (A.eq ((A.nthA rs (A.nat i)).cellAt 4).toI 1) 3]≤1000000),List.all [AV.int .i64 6,AV.int .i64 (Zad (Zan ((A.nthA rs (A.nat i)).cellAt 4).toI 1 1000000) 2),AV.int .i64 (Zad (A.eq ((A.nthA rs (A.nat i)).cellAt 4).toI 1) 3)] fun x=>AV.bx x&&Nat.beq (Zab A x) 1,!A.not (A.eq ((A.nthA rs (A.nat i)).cellAt 3).toI (-1)),!ZjO ((A.nthA rs (A.nat i)).cellAt 2).toI m,decide (-1000000≤m∧m≤1000000),Zan ((A.nthA rs (A.nat i)).cellAt 1).toI 0 (A.sub n 1),A.inR .i64 (A.sub n 1),Zae (Zae (A.le 0 i) (Nat.blt (A.nat i) (A.lenA rs))) true],
  AV.int .i64 (Zao [6,Zad (Zan ((A.nthA rs (A.nat i)).cellAt 4).toI 1 1000000) 2,Zad (A.eq ((A.nthA rs (A.nat i)).cellAt 4).toI 1) 3]),none):=by kernel_rfl
theorem ZDH(A:Ar)(ms ks rs:List AV)(i n m:Int):Zbd A tab B2 18 [false,false,true] 165 (ZqM ms ks rs i n m) []=
 some (tr [2,0,5,23,2,6,4] [decide (List.length [6,Zad (Zan ((A.nthA rs (A.nat i)).cellAt 4).toI 1 1000000) 2,0]≤1000000),List.all [AV.int .i64 6,AV.int .i64 (Zad (Zan ((A.nthA rs (A.nat i)).cellAt 4).toI 1 1000000) 2),AV.int .i64 0] fun x=>AV.bx x&&Nat.beq (Zab A x) 1,A.not (A.eq ((A.nthA rs (A.nat i)).cellAt 3).toI (-1)),!Zan ((A.nthA rs (A.nat i)).cellAt 1).toI 0 (A.sub n 1),A.inR .i64 (A.sub n 1),Zae (Zae (A.le 0 i) (Nat.blt (A.nat i) (A.lenA rs))) true],
  AV.int .i64 (Zao [6,Zad (Zan ((A.nthA rs (A.nat i)).cellAt 4).toI 1 1000000) 2,0]),none):=by kernel_rfl
theorem ZCI(A:Ar)(ms ks rs:List AV)(i n m:Int):Zbd A tab B2 18 [false,false,false] 165 (ZqM ms ks rs i n m) []=
 some (tr [2,0,5,23,2,6,4] [decide (List.length [6,Zad (Zan ((A.nthA rs (A.nat i)).cellAt 4).toI 1 1000000) 2,Zad (A.eq ((A.nthA rs (A.nat i)).cellAt 4).toI 1) 3]≤1000000),List.all [AV.int .i64 6,AV.int .i64 (Zad (Zan ((A.nthA rs (A.nat i)).cellAt 4).toI 1 1000000) 2),AV.int .i64 (Zad (A.eq ((A.nthA rs (A.nat i)).cellAt 4).toI 1) 3)] fun x=>AV.bx x&&Nat.beq (Zab A x) 1,!A.not (A.eq ((A.nthA rs (A.nat i)).cellAt 3).toI (-1)),!Zan ((A.nthA rs (A.nat i)).cellAt 1).toI 0 (A.sub n 1),A.inR .i64 (A.sub n 1),Zae (Zae (A.le 0 i) (Nat.blt (A.nat i) (A.lenA rs))) true],
  AV.int .i64 (Zao [6,Zad (Zan ((A.nthA rs (A.nat i)).cellAt 4).toI 1 1000000) 2,Zad (A.eq ((A.nthA rs (A.nat i)).cellAt 4).toI 1) 3]),none):=by kernel_rfl
def ZBo(ms ks rs:List AV):AFrame:={ fn:=25,N:=15,env:=[(0,AV.agg (Row.gen [.list (Row.big .str ms), .list (Row.big (.agg [.str, .int .i64]) ks), .list (Row.big (.agg [.str, .int .i64, .int .i64, .int .i64, .int .i64]) rs)]))],todo:=[.code a25.code],defs:=[],rnd:=none,ret:=false,res:=[ARes.cell 2 true 3] }
def ZMh(ms ks rs:List AV):List AFrame:=[(ZBo ms ks rs)]
theorem Zyc(ms ks rs:List AV):ZaA tab 25 [AV.agg (Row.gen [.list (Row.big .str ms), .list (Row.big (.agg [.str, .int .i64]) ks), .list (Row.big (.agg [.str, .int .i64, .int .i64, .int .i64, .int .i64]) rs)])]=some (ZBo ms ks rs):=rfl
theorem ZGQ(A:Ar)(ms ks rs:List AV):Zbd A tab B2 9 [] 25 (ZMh ms ks rs) []=
 some (tr [3,3,3,4] [Nat.ble (A.lenA rs) 4294967296,Nat.ble (A.lenA ks) 4294967296,decide (List.length ms≤1000000)],
  AV.agg (Row.gen [.list (Row.big .str ms), .list (Row.big (.agg [.str, .int .i64]) ks), .list (Row.big (.agg [.str, .int .i64, .int .i64, .int .i64, .int .i64]) rs)]),none):=by kernel_rfl
end Go.Proofs.YtkeoeooghhjibaaGreatDoor
/- Contracts as a list. No condition. -/
namespace Go.Proofs.YtkeoeooghhjibaaGreatDoor
def ZaS(xs:List AV)(i:Int)(j:Nat):Int:=((xs.getD i.toNat .top).cellAt j).toI
def Zc3(ks:List AV)(i k:Int):Int:=Zad (ZjO (ZaS ks i 1) k) 6
def ZbS(rs:List AV)(i n m:Int):Int:=Zao [Zad (Zan (ZaS rs i 1) 0 (n-1)&&ZjO (ZaS rs i 2) m&&ZjO (ZaS rs i 3) n) 6,Zad (Zan (ZaS rs i 4) 1 1000000) 2,Zad (decide (ZaS rs i 3≠ -1∨ZaS rs i 4=1)) 3]
theorem ZrX(ms ks rs:List AV)(i k:Int)(h:(0≤i∧i<ks.length)∧ -1000000≤k∧k≤1000000):Zat Tryz.prog 163 [.int .i64 i, .eptr (.fn 158 []) 0, .eptr (.agg (.gen [.list (.big .str ms), .list (.big (.agg [.str, .int .i64]) ks), .list (.big (.agg [.str, .int .i64, .int .i64, .int .i64, .int .i64]) rs)])) 0, .eptr (.int .i64 k) 0] (.int .i64 (Zc3 ks i k)) none:=
 start (ZtQ ms ks rs i k) fun C hC=>fin hC ZlJ (ZCZ std ms ks rs i k) (by simp;omega) rfl rfl
theorem ZsS(ms ks rs:List AV)(i n m:Int)(h:(0≤i∧i<rs.length)∧(-1000000≤n∧n≤1000000)∧ -1000000≤m∧m≤1000000):Zat Tryz.prog 165 [.int .i64 i, .eptr (.agg (.gen [.list (.big .str ms), .list (.big (.agg [.str, .int .i64]) ks), .list (.big (.agg [.str, .int .i64, .int .i64, .int .i64, .int .i64]) rs)])) 0, .eptr (.int .i64 n) 0, .eptr (.fn 158 []) 0, .eptr (.int .i64 m) 0] (.int .i64 (ZbS rs i n m)) none:=
 start (ZuP ms ks rs i n m) fun C hC=>by
  have hb:∀x y z:Int,([AV.int .i64 x,AV.int .i64 y,AV.int .i64 z].all fun x=>AV.bx x&&Nat.beq (Zab std x) 1)=true:=fun _ _ _=>rfl
  have e1:((rs.getD i.toNat .top).cellAt 1).toI=ZaS rs i 1:=rfl
  have e2:((rs.getD i.toNat .top).cellAt 2).toI=ZaS rs i 2:=rfl
  have e3:((rs.getD i.toNat .top).cellAt 3).toI=ZaS rs i 3:=rfl
  have e4:((rs.getD i.toNat .top).cellAt 4).toI=ZaS rs i 4:=rfl
  have hi:i.toNat<rs.length:=by omega
  by_cases h1:Zan (ZaS rs i 1) 0 (n-1)=true
  ·by_cases h2:ZjO (ZaS rs i 2) m=true
   ·by_cases h3:ZaS rs i 3= -1
    ·exact fin hC ZlJ (ZBy std ms ks rs i n m) (by simp only[hb];simp[-List.getD_eq_getElem?_getD,e1,e2,e3,e4,h1,h2,h3];omega) (by simp[-List.getD_eq_getElem?_getD,ZbS,e1,e2,e3,e4,h1,h2,h3]) rfl
    ·exact fin hC ZlJ (ZBK std ms ks rs i n m) (by simp only[hb];simp[-List.getD_eq_getElem?_getD,e1,e2,e3,e4,h1,h2,h3];omega) (by simp[-List.getD_eq_getElem?_getD,ZbS,e1,e2,e3,e4,h1,h2,h3,Zad]) rfl
   ·by_cases h3:ZaS rs i 3= -1
    ·exact fin hC ZlJ (ZBA std ms ks rs i n m) (by simp only[hb];simp[-List.getD_eq_getElem?_getD,e1,e2,e3,e4,h1,h2,h3];omega) (by simp[-List.getD_eq_getElem?_getD,ZbS,e1,e2,e3,e4,h1,h2,h3,Zad]) rfl
    ·exact fin hC ZlJ (ZEk std ms ks rs i n m) (by simp only[hb];simp[-List.getD_eq_getElem?_getD,e1,e2,e3,e4,h1,h2,h3];omega) (by simp[-List.getD_eq_getElem?_getD,ZbS,e1,e2,e3,e4,h1,h2,h3,Zad]) rfl
  ·by_cases h3:ZaS rs i 3= -1
   ·exact fin hC ZlJ (ZCI std ms ks rs i n m) (by simp only[hb];simp[-List.getD_eq_getElem?_getD,e1,e2,e3,e4,h1,h3];omega) (by simp[-List.getD_eq_getElem?_getD,ZbS,e1,e2,e3,e4,h1,h3,Zad]) rfl
   ·exact fin hC ZlJ (ZDH std ms ks rs i n m) (by simp only[hb];simp[-List.getD_eq_getElem?_getD,e1,e2,e3,e4,h1,h3];omega) (by simp[-List.getD_eq_getElem?_getD,ZbS,e1,e2,e3,e4,h1,h3,Zad]) rfl
theorem Ztx(ms ks rs:List AV)(h:ms.length≤1000000∧ks.length≤1000000∧rs.length≤1000000):Zat Tryz.prog 25 [.agg (.gen [.list (.big .str ms), .list (.big (.agg [.str, .int .i64]) ks), .list (.big (.agg [.str, .int .i64, .int .i64, .int .i64, .int .i64]) rs)])] (.agg (.gen [.list (.big .str ms), .list (.big (.agg [.str, .int .i64]) ks), .list (.big (.agg [.str, .int .i64, .int .i64, .int .i64, .int .i64]) rs)])) none:=
 start (Zyc ms ks rs) fun C hC=>fin hC ZlJ (ZGQ std ms ks rs) (by simp;omega) rfl rfl
def k163:Ctr:=⟨163,0,fun _ a=>match a with |[.int .i64 i, .eptr (.fn 158 []) 0, .eptr (.agg (.gen [.list (.big .str ms), .list (.big (.agg [.str, .int .i64]) ks), .list (.big (.agg [.str, .int .i64, .int .i64, .int .i64, .int .i64]) rs)])) 0, .eptr (.int .i64 k) 0]=>some (decide ((0≤i∧i<ks.length)∧ -1000000≤k∧k≤1000000), .int .i64 (Zc3 ks i k),none) |_=>none⟩
theorem ZzR:k163.OK Tryz.prog:=fun pa args r fr h=>by
 simp only[k163]at h
 split at h
 ·simp only[Option.some.injEq,Prod.mk.injEq,decide_eq_true_eq]at h
  obtain⟨h0,rfl,rfl⟩:=h
  exact ZrX _ _ _ _ _ h0
 ·cases h
def k165:Ctr:=⟨165,0,fun _ a=>match a with |[.int .i64 i, .eptr (.agg (.gen [.list (.big .str ms), .list (.big (.agg [.str, .int .i64]) ks), .list (.big (.agg [.str, .int .i64, .int .i64, .int .i64, .int .i64]) rs)])) 0, .eptr (.int .i64 n) 0, .eptr (.fn 158 []) 0, .eptr (.int .i64 m) 0]=>some (decide ((0≤i∧i<rs.length)∧(-1000000≤n∧n≤1000000)∧ -1000000≤m∧m≤1000000), .int .i64 (ZbS rs i n m),none) |_=>none⟩
theorem Zx6:k165.OK Tryz.prog:=fun pa args r fr h=>by
 simp only[k165]at h
 split at h
 ·simp only[Option.some.injEq,Prod.mk.injEq,decide_eq_true_eq]at h
  obtain⟨h0,rfl,rfl⟩:=h
  exact ZsS _ _ _ _ _ _ h0
 ·cases h
def k25:Ctr:=⟨25,0,fun _ a=>match a with |[.agg (.gen [.list (.big .str ms), .list (.big (.agg [.str, .int .i64]) ks), .list (.big (.agg [.str, .int .i64, .int .i64, .int .i64, .int .i64]) rs)])]=>some (decide (ms.length≤1000000∧ks.length≤1000000∧rs.length≤1000000), .agg (.gen [.list (.big .str ms), .list (.big (.agg [.str, .int .i64]) ks), .list (.big (.agg [.str, .int .i64, .int .i64, .int .i64, .int .i64]) rs)]),none) |_=>none⟩
theorem ZDt:k25.OK Tryz.prog:=fun pa args r fr h=>by
 simp only[k25]at h
 split at h
 ·simp only[Option.some.injEq,Prod.mk.injEq,decide_eq_true_eq]at h
  obtain⟨h0,rfl,rfl⟩:=h
  exact Ztx _ _ _ h0
 ·cases h
def B3:List Ctr:=[k163,k165,k25]++B2
theorem ZbF:Zaw Tryz.prog B3:=⟨ZzR,⟨Zx6,⟨ZDt,ZlJ⟩⟩⟩
end Go.Proofs.YtkeoeooghhjibaaGreatDoor
/- Paths of functions, printed by the explorer (Gx). No condition. -/
namespace Go.Proofs.YtkeoeooghhjibaaGreatDoor
set_option maxRecDepth 100000
set_option linter.unusedVariables false
def ZsZ(s:List UInt8):AFrame:={ fn:=151,N:=18,env:=[(0,AV.nils),(1,AV.str s)],todo:=[.code a151.code],defs:=[],rnd:=none,ret:=false,res:=[ARes.tmp 4] }
def ZBE(s:List UInt8):List AFrame:=[(ZsZ s)]
theorem Zrx(s:List UInt8):ZaA tab 151 [AV.nils,AV.str s]=some (ZsZ s):=rfl
def Zhl(s:List UInt8):List AFrame:=[{ fn:=151,N:=18,env:=[(0,AV.nils),(1,AV.str s),(5,AV.int .i64 0)],todo:=.code (ACode.gh [] ZsP)::Zvv,defs:=[],rnd:=none,ret:=false,res:=[ARes.tmp 4] }]
def ZfS(s:List UInt8):Zaa:=[]
abbrev Zll(s:List UInt8):List AFrame×Zaa:=(Zhl s,ZfS s)
theorem ZzY(A:Ar)(s:List UInt8):ZaI A tab B3 12 [] (ZBE s) []=
 some (tr [2] [],
  Zll (s)):=by kernel_rfl
theorem Zxs(A:Ar)(s:List UInt8):Zbd A tab B3 16 [false] 151 (Zhl s) (ZfS s)=
 some (tr [2,4] [!A.lt 0 (A.int 0)],
  AV.bool false,none):=by kernel_rfl
end Go.Proofs.YtkeoeooghhjibaaGreatDoor
/- Paths of functions, printed by the explorer (Gx). No condition. -/
namespace Go.Proofs.YtkeoeooghhjibaaGreatDoor
set_option maxRecDepth 100000
set_option linter.unusedVariables false
def ZAy(ms ks rs:List AV):AFrame:={ fn:=23,N:=66,env:=[(0,AV.agg (Row.gen [.list (Row.big .str ms), .list (Row.big (.agg [.str, .int .i64]) ks), .list (Row.big (.agg [.str, .int .i64, .int .i64, .int .i64, .int .i64]) rs)]))],todo:=[.code a23.code],defs:=[],rnd:=none,ret:=false,res:=[ARes.tmp 2] }
def ZE9(ms ks rs:List AV):List AFrame:=[(ZAy ms ks rs)]
theorem ZzW(ms ks rs:List AV):ZaA tab 23 [AV.agg (Row.gen [.list (Row.big .str ms), .list (Row.big (.agg [.str, .int .i64]) ks), .list (Row.big (.agg [.str, .int .i64, .int .i64, .int .i64, .int .i64]) rs)])]=some (ZAy ms ks rs):=rfl
def Zeg(ms ks rs:List AV)(n0:Int):List AFrame:=[{ fn:=23,N:=66,env:=[(1,AV.ptr 23002 0 0 0),(3,AV.int .i64 n0)],todo:=.code (ACode.gh [] ZAw)::ZFR,defs:=[],rnd:=none,ret:=false,res:=[ARes.tmp 2] }]
def Zc9(ms ks rs:List AV)(n0:Int):Zaa:=[(23002,{ base:=0,blks:=[Blk.row 26 3 (Row.gen [AV.agg (Row.gen [AV.list (Row.big .str ms),AV.list (Row.big (.agg [.str, .int .i64]) ks),AV.list (Row.big (.agg [.str, .int .i64, .int .i64, .int .i64, .int .i64]) rs)])])] })]
abbrev ZkX(ms ks rs:List AV)(n0:Int):List AFrame×Zaa:=(Zeg ms ks rs n0,Zc9 ms ks rs n0)
def Zd9(ms ks rs:List AV)(n1:Int):List AFrame:=[{ fn:=23,N:=66,env:=[(1,AV.ptr 23002 0 0 0),(4,AV.int .i64 n1)],todo:=.code (ACode.gh [] ZCM)::ZHf,defs:=[],rnd:=none,ret:=false,res:=[ARes.tmp 2] }]
def Zdc(ms ks rs:List AV)(n1:Int):Zaa:=[(23002,{ base:=0,blks:=[Blk.row 26 3 (Row.gen [AV.agg (Row.gen [AV.list (Row.big .str ms),AV.list (Row.big (.agg [.str, .int .i64]) ks),AV.list (Row.big (.agg [.str, .int .i64, .int .i64, .int .i64, .int .i64]) rs)])])] })]
abbrev Zk5(ms ks rs:List AV)(n1:Int):List AFrame×Zaa:=(Zd9 ms ks rs n1,Zdc ms ks rs n1)
def ZdT(ms ks rs:List AV)(n2:Int):List AFrame:=[{ fn:=23,N:=66,env:=[(1,AV.ptr 23002 0 0 0),(5,AV.int .i64 n2)],todo:=.code (ACode.gh [] ZAt)::ZFq,defs:=[],rnd:=none,ret:=false,res:=[ARes.tmp 2] }]
def Zdb(ms ks rs:List AV)(n2:Int):Zaa:=[(23002,{ base:=0,blks:=[Blk.row 26 3 (Row.gen [AV.agg (Row.gen [AV.list (Row.big .str ms),AV.list (Row.big (.agg [.str, .int .i64]) ks),AV.list (Row.big (.agg [.str, .int .i64, .int .i64, .int .i64, .int .i64]) rs)])])] })]
abbrev Zj8(ms ks rs:List AV)(n2:Int):List AFrame×Zaa:=(ZdT ms ks rs n2,Zdb ms ks rs n2)
theorem ZGi(A:Ar)(ms ks rs:List AV):Zbd A tab B3 32 [true,true,true,true,true,true,true,true,true,true,true] 23 (ZE9 ms ks rs) []=
 some (tr [23,7] [A.lt 8 (A.int (A.lenA ms))],
  AV.bool false,none):=by kernel_rfl
theorem ZFM(A:Ar)(ms ks rs:List AV):Zbd A tab B3 32 [false,false,false,false,false,true,true,true,true,true,true] 23 (ZE9 ms ks rs) []=
 some (tr [12,10,7] [A.lt 10 (A.int (A.lenA ks)),!A.lt 8 (A.int (A.lenA ms))],
  AV.bool false,none):=by kernel_rfl
theorem ZGX(A:Ar)(ms ks rs:List AV):Zbd A tab B3 32 [false,false,false,false,false,false,false,false,false,false,true] 23 (ZE9 ms ks rs) []=
 some (tr [2,9,10,7] [A.lt 12 (A.int (A.lenA rs)),!A.lt 10 (A.int (A.lenA ks)),!A.lt 8 (A.int (A.lenA ms))],
  AV.bool false,none):=by kernel_rfl
theorem ZGn(A:Ar)(ms ks rs:List AV):ZaI A tab B3 36 [false,false,false,false,false,false,false,false,false,false,false] (ZE9 ms ks rs) []=
 some (tr [1,9,10,7] [!A.lt 12 (A.int (A.lenA rs)),!A.lt 10 (A.int (A.lenA ks)),!A.lt 8 (A.int (A.lenA ms))],
  ZkX (ms) (ks) (rs) (0)):=by kernel_rfl
theorem ZFV(A:Ar)(ms ks rs:List AV)(n0:Int):Zbd A tab B3 31 [true,true] 23 (Zeg ms ks rs n0) (Zc9 ms ks rs n0)=
 some (tr [2,3,3,5] [A.lt 20 (A.int (A.lenS (AV.toS (A.nthA ms (A.nat n0))))),Zae (Zae (A.le 0 n0) (Nat.blt (A.nat n0) (A.lenA ms))) true,A.lt n0 (A.int (A.lenA ms))],
  AV.bool false,none):=by kernel_rfl
theorem ZG6(A:Ar)(ms ks rs:List AV)(n0:Int):ZaI A tab B3 35 [true,false] (Zeg ms ks rs n0) (Zc9 ms ks rs n0)=
 some (tr [1,1,3,3,5] [A.inR .i64 (A.add n0 1),!A.lt 20 (A.int (A.lenS (AV.toS (A.nthA ms (A.nat n0))))),Zae (Zae (A.le 0 n0) (Nat.blt (A.nat n0) (A.lenA ms))) true,A.lt n0 (A.int (A.lenA ms))],
  ZkX (ms) (ks) (rs) (A.add n0 1)):=by kernel_rfl
theorem ZGU(A:Ar)(ms ks rs:List AV)(n0:Int):ZaI A tab B3 20 [false] (Zeg ms ks rs n0) (Zc9 ms ks rs n0)=
 some (tr [1,5] [!A.lt n0 (A.int (A.lenA ms))],
  Zk5 (ms) (ks) (rs) (0)):=by kernel_rfl
theorem ZF4(A:Ar)(ms ks rs:List AV)(n1:Int):Zbd A tab B3 32 [true,true] 23 (Zd9 ms ks rs n1) (Zdc ms ks rs n1)=
 some (tr [2,4,3,5] [A.lt 20 (A.int (A.lenS ((A.nthA ks (A.nat n1)).cellAt 0).toS)),Zae (Zae (A.le 0 n1) (Nat.blt (A.nat n1) (A.lenA ks))) true,A.lt n1 (A.int (A.lenA ks))],
  AV.bool false,none):=by kernel_rfl
theorem ZFY(A:Ar)(ms ks rs:List AV)(n1:Int):ZaI A tab B3 36 [true,false] (Zd9 ms ks rs n1) (Zdc ms ks rs n1)=
 some (tr [1,1,4,3,5] [A.inR .i64 (A.add n1 1),!A.lt 20 (A.int (A.lenS ((A.nthA ks (A.nat n1)).cellAt 0).toS)),Zae (Zae (A.le 0 n1) (Nat.blt (A.nat n1) (A.lenA ks))) true,A.lt n1 (A.int (A.lenA ks))],
  Zk5 (ms) (ks) (rs) (A.add n1 1)):=by kernel_rfl
theorem ZGg(A:Ar)(ms ks rs:List AV)(n1:Int):ZaI A tab B3 20 [false] (Zd9 ms ks rs n1) (Zdc ms ks rs n1)=
 some (tr [1,5] [!A.lt n1 (A.int (A.lenA ks))],
  Zj8 (ms) (ks) (rs) (0)):=by kernel_rfl
theorem ZA1(A:Ar)(ms ks rs:List AV)(n2:Int):Zbd A tab B3 32 [true,true] 23 (ZdT ms ks rs n2) (Zdb ms ks rs n2)=
 some (tr [2,4,3,5] [A.lt 20 (A.int (A.lenS ((A.nthA rs (A.nat n2)).cellAt 0).toS)),Zae (Zae (A.le 0 n2) (Nat.blt (A.nat n2) (A.lenA rs))) true,A.lt n2 (A.int (A.lenA rs))],
  AV.bool false,none):=by kernel_rfl
theorem ZD8(A:Ar)(ms ks rs:List AV)(n2:Int):ZaI A tab B3 36 [true,false] (ZdT ms ks rs n2) (Zdb ms ks rs n2)=
 some (tr [1,1,4,3,5] [A.inR .i64 (A.add n2 1),!A.lt 20 (A.int (A.lenS ((A.nthA rs (A.nat n2)).cellAt 0).toS)),Zae (Zae (A.le 0 n2) (Nat.blt (A.nat n2) (A.lenA rs))) true,A.lt n2 (A.int (A.lenA rs))],
  Zj8 (ms) (ks) (rs) (A.add n2 1)):=by kernel_rfl
theorem ZEx(A:Ar)(ms ks rs:List AV)(n2:Int):Zbd A tab B3 17 [false] 23 (ZdT ms ks rs n2) (Zdb ms ks rs n2)=
 some (tr [2,5] [!A.lt n2 (A.int (A.lenA rs))],
  AV.bool true,none):=by kernel_rfl
def ZvI(ms ks rs:List AV):AFrame:={ fn:=136,N:=31,env:=[(0,AV.agg (Row.gen [.list (Row.big .str ms), .list (Row.big (.agg [.str, .int .i64]) ks), .list (Row.big (.agg [.str, .int .i64, .int .i64, .int .i64, .int .i64]) rs)]))],todo:=[.code a136.code],defs:=[],rnd:=none,ret:=false,res:=[ARes.cell 2 true 2,ARes.tmp 3] }
def ZC9(ms ks rs:List AV):List AFrame:=[(ZvI ms ks rs)]
theorem ZtW(ms ks rs:List AV):ZaA tab 136 [AV.agg (Row.gen [.list (Row.big .str ms), .list (Row.big (.agg [.str, .int .i64]) ks), .list (Row.big (.agg [.str, .int .i64, .int .i64, .int .i64, .int .i64]) rs)])]=some (ZvI ms ks rs):=rfl
def ZbM(ms ks rs:List AV)(n0 n1 n2 n3 n4:Int)(x5:List AV):List AFrame:=[{ fn:=159,N:=83,env:=[(0,AV.ptr 136005 0 0 0),(1,AV.int .i64 1),(5,AV.fn 160 [AV.ptr 136002 0 0 0]),(6,AV.fn 161 []),(15,AV.mp 159045 0),(45,AV.int .i64 n0),(46,AV.int .i64 n4)],todo:=.code (ACode.gh [] ZoM)::ZrS,defs:=[],rnd:=none,ret:=false,res:=[] },{ fn:=136,N:=31,env:=[(1,AV.ptr 136002 0 0 0),(2,AV.ptr 136003 0 0 0),(4,AV.ptr 136005 0 0 0),(5,AV.ptr 136006 0 0 0),(6,AV.ptr 136007 0 0 0),(7,AV.ptr 136008 0 0 0),(14,AV.int .i64 n1),(15,AV.fn 160 [AV.ptr 136002 0 0 0])],todo:=[AItem.inReg [oN 16 (OpK.icall 159 [Opd.t 4,cI 1,Opd.t 14,cI 1,cI 6,Opd.t 15,Opd.c (AV.fn 161 [])])], .code (ACode.seq (ACode.reg none [oN 17 (OpK.load false 1 (Opd.t 7)),oN 18 (OpK.mkfn 162 [Opd.t 1]),oN 19 (OpK.mkfn 163 [Opd.t 5,Opd.t 1,Opd.t 6]),oN 20 (OpK.icall 159 [Opd.t 4,cI 2,Opd.t 17,cI 1,cI 8,Opd.t 18,Opd.t 19])]) (ACode.seq (ACode.reg none [oN 21 (OpK.faddr 2 (Opd.t 1)),oN 22 (OpK.load false 1 (Opd.t 21)),oN 23 (OpK.len (Opd.t 22)),oN 24 (OpK.mkfn 164 [Opd.t 1]),oN 25 (OpK.mkfn 165 [Opd.t 1,Opd.t 7,Opd.t 5,Opd.t 6]),oN 26 (OpK.icall 159 [Opd.t 4,cI 3,Opd.t 23,cI 0,cI 10,Opd.t 24,Opd.t 25])]) (ACode.gh [Ghost.keep [2,4]] (ACode.seq (ACode.reg (some [(2,4),(3,4)]) [oN 27 (OpK.faddr 0 (Opd.t 4)),oN 28 (OpK.load true 2 (Opd.t 27)),oN 29 (OpK.faddr 2 (Opd.t 4)),oN 30 (OpK.load false 1 (Opd.t 29)),{ d:=none,g:=none,k:=OpK.store 2 (Opd.t 2) (Opd.t 28) },mV 3 30]) ACode.ret))))],defs:=[],rnd:=none,ret:=false,res:=[ARes.cell 2 true 2,ARes.tmp 3] }]
def ZbC(ms ks rs:List AV)(n0 n1 n2 n3 n4:Int)(x5:List AV):Zaa:=[(136002,{ base:=0,blks:=[Blk.row 26 3 (Row.gen [AV.agg (Row.gen [AV.list (Row.big .str ms),AV.list (Row.big (.agg [.str, .int .i64]) ks),AV.list (Row.big (.agg [.str, .int .i64, .int .i64, .int .i64, .int .i64]) rs)])])] }),(136003,{ base:=0,blks:=[Blk.row 195 2 (Row.gen [AV.agg (Row.gen [AV.int .i64 0,AV.int .i64 0])])] }),(136005,{ base:=0,blks:=[Blk.row 236 3 (Row.gen [AV.agg (Row.gen [AV.int .i64 0,AV.int .i64 0,AV.int .i64 0])])] }),(136006,{ base:=0,blks:=[Blk.row 237 1 (Row.gen [AV.fn 158 []])] }),(136007,{ base:=0,blks:=[Blk.row 3 1 (Row.gen [.int .i64 n2])] }),(136008,{ base:=0,blks:=[Blk.row 3 1 (Row.gen [.int .i64 n3])] }),(159045,{ base:=0,blks:=[Blk.mp x5] })]
abbrev ZhP(ms ks rs:List AV)(n0 n1 n2 n3 n4:Int)(x5:List AV):List AFrame×Zaa:=(ZbM ms ks rs n0 n1 n2 n3 n4 x5,ZbC ms ks rs n0 n1 n2 n3 n4 x5)
def ZbP(ms ks rs:List AV)(n1 n2 n3 n6:Int)(x7:List AV):List AFrame:=[{ fn:=159,N:=83,env:=[(0,AV.ptr 136005 0 0 0),(1,AV.int .i64 2),(5,AV.fn 162 [AV.ptr 136002 0 0 0]),(6,AV.fn 163 [AV.ptr 136006 0 0 0,AV.ptr 136002 0 0 0,AV.ptr 136007 0 0 0]),(15,AV.mp 159045 0),(45,AV.int .i64 n3),(46,AV.int .i64 n6)],todo:=.code (ACode.gh [] ZoM)::ZrS,defs:=[],rnd:=none,ret:=false,res:=[] },{ fn:=136,N:=31,env:=[(1,AV.ptr 136002 0 0 0),(2,AV.ptr 136003 0 0 0),(4,AV.ptr 136005 0 0 0),(5,AV.ptr 136006 0 0 0),(6,AV.ptr 136007 0 0 0),(7,AV.ptr 136008 0 0 0),(14,AV.int .i64 n1),(15,AV.fn 160 [AV.ptr 136002 0 0 0]),(16,AV.tup []),(17,AV.int .i64 n3),(18,AV.fn 162 [AV.ptr 136002 0 0 0]),(19,AV.fn 163 [AV.ptr 136006 0 0 0,AV.ptr 136002 0 0 0,AV.ptr 136007 0 0 0])],todo:=[AItem.inReg [oN 20 (OpK.icall 159 [Opd.t 4,cI 2,Opd.t 17,cI 1,cI 8,Opd.t 18,Opd.t 19])], .code (ACode.seq (ACode.reg none [oN 21 (OpK.faddr 2 (Opd.t 1)),oN 22 (OpK.load false 1 (Opd.t 21)),oN 23 (OpK.len (Opd.t 22)),oN 24 (OpK.mkfn 164 [Opd.t 1]),oN 25 (OpK.mkfn 165 [Opd.t 1,Opd.t 7,Opd.t 5,Opd.t 6]),oN 26 (OpK.icall 159 [Opd.t 4,cI 3,Opd.t 23,cI 0,cI 10,Opd.t 24,Opd.t 25])]) (ACode.gh [Ghost.keep [2,4]] (ACode.seq (ACode.reg (some [(2,4),(3,4)]) [oN 27 (OpK.faddr 0 (Opd.t 4)),oN 28 (OpK.load true 2 (Opd.t 27)),oN 29 (OpK.faddr 2 (Opd.t 4)),oN 30 (OpK.load false 1 (Opd.t 29)),{ d:=none,g:=none,k:=OpK.store 2 (Opd.t 2) (Opd.t 28) },mV 3 30]) ACode.ret)))],defs:=[],rnd:=none,ret:=false,res:=[ARes.cell 2 true 2,ARes.tmp 3] }]
def Zby(ms ks rs:List AV)(n1 n2 n3 n6:Int)(x7:List AV):Zaa:=[(136002,{ base:=0,blks:=[Blk.row 26 3 (Row.gen [AV.agg (Row.gen [AV.list (Row.big .str ms),AV.list (Row.big (.agg [.str, .int .i64]) ks),AV.list (Row.big (.agg [.str, .int .i64, .int .i64, .int .i64, .int .i64]) rs)])])] }),(136003,{ base:=0,blks:=[Blk.row 195 2 (Row.gen [AV.agg (Row.gen [AV.int .i64 0,AV.int .i64 0])])] }),(136005,{ base:=0,blks:=[Blk.row 236 3 (Row.gen [AV.agg (Row.gen [AV.int .i64 0,AV.int .i64 0,AV.int .i64 0])])] }),(136006,{ base:=0,blks:=[Blk.row 237 1 (Row.gen [AV.fn 158 []])] }),(136007,{ base:=0,blks:=[Blk.row 3 1 (Row.gen [.int .i64 n2])] }),(136008,{ base:=0,blks:=[Blk.row 3 1 (Row.gen [.int .i64 n3])] }),(159045,{ base:=0,blks:=[Blk.mp x7] })]
abbrev ZhY(ms ks rs:List AV)(n1 n2 n3 n6:Int)(x7:List AV):List AFrame×Zaa:=(ZbP ms ks rs n1 n2 n3 n6 x7,Zby ms ks rs n1 n2 n3 n6 x7)
def Zct(ms ks rs:List AV)(n1 n2 n3 n8 n9 n10:Int)(x11:List AV):List AFrame:=[{ fn:=159,N:=83,env:=[(0,AV.ptr 136005 0 0 0),(1,AV.int .i64 3),(5,AV.fn 164 [AV.ptr 136002 0 0 0]),(6,AV.fn 165 [AV.ptr 136002 0 0 0,AV.ptr 136008 0 0 0,AV.ptr 136006 0 0 0,AV.ptr 136007 0 0 0]),(15,AV.mp 159045 0),(45,AV.int .i64 n8),(46,AV.int .i64 n10)],todo:=.code (ACode.gh [] ZoM)::ZrS,defs:=[],rnd:=none,ret:=false,res:=[] },{ fn:=136,N:=31,env:=[(1,AV.ptr 136002 0 0 0),(2,AV.ptr 136003 0 0 0),(4,AV.ptr 136005 0 0 0),(5,AV.ptr 136006 0 0 0),(6,AV.ptr 136007 0 0 0),(7,AV.ptr 136008 0 0 0),(14,AV.int .i64 n1),(15,AV.fn 160 [AV.ptr 136002 0 0 0]),(16,AV.tup []),(17,AV.int .i64 n3),(18,AV.fn 162 [AV.ptr 136002 0 0 0]),(19,AV.fn 163 [AV.ptr 136006 0 0 0,AV.ptr 136002 0 0 0,AV.ptr 136007 0 0 0]),(20,AV.tup []),(21,AV.ptr 136002 0 0 2),(22,AV.list (Row.big (.agg [.str, .int .i64, .int .i64, .int .i64, .int .i64]) rs)),(23,AV.int .i64 n9),(24,AV.fn 164 [AV.ptr 136002 0 0 0]),(25,AV.fn 165 [AV.ptr 136002 0 0 0,AV.ptr 136008 0 0 0,AV.ptr 136006 0 0 0,AV.ptr 136007 0 0 0])],todo:=[AItem.inReg [oN 26 (OpK.icall 159 [Opd.t 4,cI 3,Opd.t 23,cI 0,cI 10,Opd.t 24,Opd.t 25])], .code (ACode.gh [Ghost.keep [2,4]] (ACode.seq (ACode.reg (some [(2,4),(3,4)]) [oN 27 (OpK.faddr 0 (Opd.t 4)),oN 28 (OpK.load true 2 (Opd.t 27)),oN 29 (OpK.faddr 2 (Opd.t 4)),oN 30 (OpK.load false 1 (Opd.t 29)),{ d:=none,g:=none,k:=OpK.store 2 (Opd.t 2) (Opd.t 28) },mV 3 30]) ACode.ret))],defs:=[],rnd:=none,ret:=false,res:=[ARes.cell 2 true 2,ARes.tmp 3] }]
def Zb7(ms ks rs:List AV)(n1 n2 n3 n8 n9 n10:Int)(x11:List AV):Zaa:=[(136002,{ base:=0,blks:=[Blk.row 26 3 (Row.gen [AV.agg (Row.gen [AV.list (Row.big .str ms),AV.list (Row.big (.agg [.str, .int .i64]) ks),AV.list (Row.big (.agg [.str, .int .i64, .int .i64, .int .i64, .int .i64]) rs)])])] }),(136003,{ base:=0,blks:=[Blk.row 195 2 (Row.gen [AV.agg (Row.gen [AV.int .i64 0,AV.int .i64 0])])] }),(136005,{ base:=0,blks:=[Blk.row 236 3 (Row.gen [AV.agg (Row.gen [AV.int .i64 0,AV.int .i64 0,AV.int .i64 0])])] }),(136006,{ base:=0,blks:=[Blk.row 237 1 (Row.gen [AV.fn 158 []])] }),(136007,{ base:=0,blks:=[Blk.row 3 1 (Row.gen [.int .i64 n2])] }),(136008,{ base:=0,blks:=[Blk.row 3 1 (Row.gen [.int .i64 n3])] }),(159045,{ base:=0,blks:=[Blk.mp x11] })]
abbrev ZhX(ms ks rs:List AV)(n1 n2 n3 n8 n9 n10:Int)(x11:List AV):List AFrame×Zaa:=(Zct ms ks rs n1 n2 n3 n8 n9 n10 x11,Zb7 ms ks rs n1 n2 n3 n8 n9 n10 x11)
theorem ZER(A:Ar)(ms ks rs:List AV):Zbd A tab B3 118 [false,true,true,true] 136 (ZC9 ms ks rs) []=
 some (tr [8,11,20,3,0,8,23] [A.not (A.eq (Zao [Zad (A.le 1 (A.int (A.lenA ms))) 10,Zad (A.le (A.int (A.lenA ms)) 6) 8]) 0),A.not (A.eq (Zao [Zad (A.le 1 (A.int (A.lenA ms))) 10,Zad (A.le (A.int (A.lenA ms)) 6) 8]) 0),A.not (A.eq (Zao [Zad (A.le 1 (A.int (A.lenA ms))) 10,Zad (A.le (A.int (A.lenA ms)) 6) 8]) 0),decide (List.length [Zad (A.le 1 (A.int (A.lenA ms))) 10,Zad (A.le (A.int (A.lenA ms)) 6) 8]≤1000000),List.all [AV.int .i64 (Zad (A.le 1 (A.int (A.lenA ms))) 10),AV.int .i64 (Zad (A.le (A.int (A.lenA ms)) 6) 8)] fun x=>AV.bx x&&Nat.beq (Zab A x) 1,!A.not (A.eq 0 0)],
  AV.tup [AV.agg (Row.gen [.int .i64 1, .int .i64 0]),AV.int .i64 (Zao [Zad (A.le 1 (A.int (A.lenA ms))) 10,Zad (A.le (A.int (A.lenA ms)) 6) 8])],none):=by kernel_rfl
theorem ZAF(A:Ar)(ms ks rs:List AV):ZaI A tab B3 70 [false,false] (ZC9 ms ks rs) []=
 some (tr [4,3,0,8,23] [!A.not (A.eq (Zao [Zad (A.le 1 (A.int (A.lenA ms))) 10,Zad (A.le (A.int (A.lenA ms)) 6) 8]) 0),decide (List.length [Zad (A.le 1 (A.int (A.lenA ms))) 10,Zad (A.le (A.int (A.lenA ms)) 6) 8]≤1000000),List.all [AV.int .i64 (Zad (A.le 1 (A.int (A.lenA ms))) 10),AV.int .i64 (Zad (A.le (A.int (A.lenA ms)) 6) 8)] fun x=>AV.bx x&&Nat.beq (Zab A x) 1,!A.not (A.eq 0 0)],
  ZhP (ms) (ks) (rs) (A.int (A.lenA ms)) (A.int (A.lenA ms)) (A.int (A.lenA ms)) (A.int (A.lenA ks)) (0) ([])):=by kernel_rfl
theorem ZCF(A:Ar)(ms ks rs:List AV)(n0 n1 n2 n3 n4:Int)(x5:List AV):Zbd A tab B3 107 [true,true,true,true] 136 (ZbM ms ks rs n0 n1 n2 n3 n4 x5) (ZbC ms ks rs n0 n1 n2 n3 n4 x5)=
 some (tr [8,11,21,3,0,6,4,0,4,1] [A.not (A.eq (Zao [Zad (ZaR (Za2 ms n4)) 4,Zad (A.not (A.hasS x5 (Za2 ms n4))) 5,0]) 0),A.not (A.eq (Zao [Zad (ZaR (Za2 ms n4)) 4,Zad (A.not (A.hasS x5 (Za2 ms n4))) 5,0]) 0),A.not (A.eq (Zao [Zad (ZaR (Za2 ms n4)) 4,Zad (A.not (A.hasS x5 (Za2 ms n4))) 5,0]) 0),decide (List.length [Zad (ZaR (Za2 ms n4)) 4,Zad (A.not (A.hasS x5 (Za2 ms n4))) 5,0]≤1000000),List.all [AV.int .i64 (Zad (ZaR (Za2 ms n4)) 4),AV.int .i64 (Zad (A.not (A.hasS x5 (Za2 ms n4))) 5),AV.int .i64 0] fun x=>AV.bx x&&Nat.beq (Zab A x) 1,decide (0≤n4∧n4< ↑(List.length ms)),decide (List.length (Za2 ms n4)≤1000000),decide (0≤n4∧n4< ↑(List.length ms)),A.lt n4 n0],
  AV.tup [AV.agg (Row.gen [.int .i64 1, .int .i64 n4]),AV.int .i64 (Zao [Zad (ZaR (Za2 ms n4)) 4,Zad (A.not (A.hasS x5 (Za2 ms n4))) 5,0])],none):=by kernel_rfl
theorem ZDk(A:Ar)(ms ks rs:List AV)(n0 n1 n2 n3 n4:Int)(x5:List AV):ZaI A tab B3 59 [true,false] (ZbM ms ks rs n0 n1 n2 n3 n4 x5) (ZbC ms ks rs n0 n1 n2 n3 n4 x5)=
 some (tr [1,0,0,3,3,0,6,4,0,4,1] [A.inR .i64 (A.add n4 1),A.not (A.hasS x5 (Za2 ms n4)),decide (0≤n4∧n4< ↑(List.length ms)),!A.not (A.eq (Zao [Zad (ZaR (Za2 ms n4)) 4,Zad (A.not (A.hasS x5 (Za2 ms n4))) 5,0]) 0),decide (List.length [Zad (ZaR (Za2 ms n4)) 4,Zad (A.not (A.hasS x5 (Za2 ms n4))) 5,0]≤1000000),List.all [AV.int .i64 (Zad (ZaR (Za2 ms n4)) 4),AV.int .i64 (Zad (A.not (A.hasS x5 (Za2 ms n4))) 5),AV.int .i64 0] fun x=>AV.bx x&&Nat.beq (Zab A x) 1,decide (0≤n4∧n4< ↑(List.length ms)),decide (List.length (Za2 ms n4)≤1000000),decide (0≤n4∧n4< ↑(List.length ms)),A.lt n4 n0],
  ZhP (ms) (ks) (rs) (n0) (n1) (n2) (n3) (A.add n4 1) (A.appA x5 [AV.str (Za2 ms n4)])):=by kernel_rfl
theorem ZEe(A:Ar)(ms ks rs:List AV)(n0 n1 n2 n3 n4:Int)(x5:List AV):Zbd A tab B3 93 [false,false,true,true] 136 (ZbM ms ks rs n0 n1 n2 n3 n4 x5) (ZbC ms ks rs n0 n1 n2 n3 n4 x5)=
 some (tr [8,22,3,0,8,9,1] [A.not (A.eq (Zao [Zad (A.le 1 n3) 10,Zad (A.le n3 8) 8]) 0),A.not (A.eq (Zao [Zad (A.le 1 n3) 10,Zad (A.le n3 8) 8]) 0),decide (List.length [Zad (A.le 1 n3) 10,Zad (A.le n3 8) 8]≤1000000),List.all [AV.int .i64 (Zad (A.le 1 n3) 10),AV.int .i64 (Zad (A.le n3 8) 8)] fun x=>AV.bx x&&Nat.beq (Zab A x) 1,!A.not (A.eq 0 0),!A.lt n4 n0],
  AV.tup [AV.agg (Row.gen [.int .i64 2, .int .i64 0]),AV.int .i64 (Zao [Zad (A.le 1 n3) 10,Zad (A.le n3 8) 8])],none):=by kernel_rfl
theorem ZCu(A:Ar)(ms ks rs:List AV)(n0 n1 n2 n3 n4:Int)(x5:List AV):ZaI A tab B3 64 [false,false,false] (ZbM ms ks rs n0 n1 n2 n3 n4 x5) (ZbC ms ks rs n0 n1 n2 n3 n4 x5)=
 some (tr [4,3,0,8,9,1] [!A.not (A.eq (Zao [Zad (A.le 1 n3) 10,Zad (A.le n3 8) 8]) 0),decide (List.length [Zad (A.le 1 n3) 10,Zad (A.le n3 8) 8]≤1000000),List.all [AV.int .i64 (Zad (A.le 1 n3) 10),AV.int .i64 (Zad (A.le n3 8) 8)] fun x=>AV.bx x&&Nat.beq (Zab A x) 1,!A.not (A.eq 0 0),!A.lt n4 n0],
  ZhY (ms) (ks) (rs) (n1) (n2) (n3) (0) ([])):=by kernel_rfl
theorem ZAZ(A:Ar)(ms ks rs:List AV)(n1 n2 n3 n6:Int)(x7:List AV):Zbd A tab B3 88 [true,true,true] 136 (ZbP ms ks rs n1 n2 n3 n6 x7) (Zby ms ks rs n1 n2 n3 n6 x7)=
 some (tr [8,23,3,0,0,5,4,0,4,1] [A.not (A.eq (Zao [Zad (ZaR (Zax ks n6)) 4,Zad (A.not (A.hasS x7 (Zax ks n6))) 5,Zc3 ks n6 n2]) 0),A.not (A.eq (Zao [Zad (ZaR (Zax ks n6)) 4,Zad (A.not (A.hasS x7 (Zax ks n6))) 5,Zc3 ks n6 n2]) 0),decide (List.length [Zad (ZaR (Zax ks n6)) 4,Zad (A.not (A.hasS x7 (Zax ks n6))) 5,Zc3 ks n6 n2]≤1000000),List.all [AV.int .i64 (Zad (ZaR (Zax ks n6)) 4),AV.int .i64 (Zad (A.not (A.hasS x7 (Zax ks n6))) 5),AV.int .i64 (Zc3 ks n6 n2)] fun x=>AV.bx x&&Nat.beq (Zab A x) 1,decide ((0≤n6∧n6< ↑(List.length ks))∧ -1000000≤n2∧n2≤1000000),decide (0≤n6∧n6< ↑(List.length ks)),decide (List.length (Zax ks n6)≤1000000),decide (0≤n6∧n6< ↑(List.length ks)),A.lt n6 n3],
  AV.tup [AV.agg (Row.gen [.int .i64 2, .int .i64 n6]),AV.int .i64 (Zao [Zad (ZaR (Zax ks n6)) 4,Zad (A.not (A.hasS x7 (Zax ks n6))) 5,Zc3 ks n6 n2])],none):=by kernel_rfl
theorem ZAC(A:Ar)(ms ks rs:List AV)(n1 n2 n3 n6:Int)(x7:List AV):ZaI A tab B3 59 [true,false] (ZbP ms ks rs n1 n2 n3 n6 x7) (Zby ms ks rs n1 n2 n3 n6 x7)=
 some (tr [1,0,0,3,3,0,0,5,4,0,4,1] [A.inR .i64 (A.add n6 1),A.not (A.hasS x7 (Zax ks n6)),decide (0≤n6∧n6< ↑(List.length ks)),!A.not (A.eq (Zao [Zad (ZaR (Zax ks n6)) 4,Zad (A.not (A.hasS x7 (Zax ks n6))) 5,Zc3 ks n6 n2]) 0),decide (List.length [Zad (ZaR (Zax ks n6)) 4,Zad (A.not (A.hasS x7 (Zax ks n6))) 5,Zc3 ks n6 n2]≤1000000),List.all [AV.int .i64 (Zad (ZaR (Zax ks n6)) 4),AV.int .i64 (Zad (A.not (A.hasS x7 (Zax ks n6))) 5),AV.int .i64 (Zc3 ks n6 n2)] fun x=>AV.bx x&&Nat.beq (Zab A x) 1,decide ((0≤n6∧n6< ↑(List.length ks))∧ -1000000≤n2∧n2≤1000000),decide (0≤n6∧n6< ↑(List.length ks)),decide (List.length (Zax ks n6)≤1000000),decide (0≤n6∧n6< ↑(List.length ks)),A.lt n6 n3],
  ZhY (ms) (ks) (rs) (n1) (n2) (n3) (A.add n6 1) (A.appA x7 [AV.str (Zax ks n6)])):=by kernel_rfl
theorem ZBM(A:Ar)(ms ks rs:List AV)(n1 n2 n3 n6:Int)(x7:List AV):Zbd A tab B3 74 [false,false,true] 136 (ZbP ms ks rs n1 n2 n3 n6 x7) (Zby ms ks rs n1 n2 n3 n6 x7)=
 some (tr [19,3,0,8,11,1] [A.not (A.eq (Zao [Zad (A.le 0 (A.int (A.lenA rs))) 10,Zad (A.le (A.int (A.lenA rs)) 10) 8]) 0),decide (List.length [Zad (A.le 0 (A.int (A.lenA rs))) 10,Zad (A.le (A.int (A.lenA rs)) 10) 8]≤1000000),List.all [AV.int .i64 (Zad (A.le 0 (A.int (A.lenA rs))) 10),AV.int .i64 (Zad (A.le (A.int (A.lenA rs)) 10) 8)] fun x=>AV.bx x&&Nat.beq (Zab A x) 1,!A.not (A.eq 0 0),!A.lt n6 n3],
  AV.tup [AV.agg (Row.gen [.int .i64 3, .int .i64 0]),AV.int .i64 (Zao [Zad (A.le 0 (A.int (A.lenA rs))) 10,Zad (A.le (A.int (A.lenA rs)) 10) 8])],none):=by kernel_rfl
theorem ZBV(A:Ar)(ms ks rs:List AV)(n1 n2 n3 n6:Int)(x7:List AV):ZaI A tab B3 66 [false,false,false] (ZbP ms ks rs n1 n2 n3 n6 x7) (Zby ms ks rs n1 n2 n3 n6 x7)=
 some (tr [4,3,0,8,11,1] [!A.not (A.eq (Zao [Zad (A.le 0 (A.int (A.lenA rs))) 10,Zad (A.le (A.int (A.lenA rs)) 10) 8]) 0),decide (List.length [Zad (A.le 0 (A.int (A.lenA rs))) 10,Zad (A.le (A.int (A.lenA rs)) 10) 8]≤1000000),List.all [AV.int .i64 (Zad (A.le 0 (A.int (A.lenA rs))) 10),AV.int .i64 (Zad (A.le (A.int (A.lenA rs)) 10) 8)] fun x=>AV.bx x&&Nat.beq (Zab A x) 1,!A.not (A.eq 0 0),!A.lt n6 n3],
  ZhX (ms) (ks) (rs) (n1) (n2) (n3) (A.int (A.lenA rs)) (A.int (A.lenA rs)) (0) ([])):=by kernel_rfl
theorem ZxK(A:Ar)(ms ks rs:List AV)(n1 n2 n3 n8 n9 n10:Int)(x11:List AV):Zbd A tab B3 67 [true,true] 136 (Zct ms ks rs n1 n2 n3 n8 n9 n10 x11) (Zb7 ms ks rs n1 n2 n3 n8 n9 n10 x11)=
 some (tr [20,3,0,0,5,4,0,4,1] [A.not (A.eq (Zao [Zad (ZaR (Zax rs n10)) 4,Zad (A.not (A.hasS x11 (Zax rs n10))) 5,ZbS rs n10 n3 n2]) 0),decide (List.length [Zad (ZaR (Zax rs n10)) 4,Zad (A.not (A.hasS x11 (Zax rs n10))) 5,ZbS rs n10 n3 n2]≤1000000),List.all [AV.int .i64 (Zad (ZaR (Zax rs n10)) 4),AV.int .i64 (Zad (A.not (A.hasS x11 (Zax rs n10))) 5),AV.int .i64 (ZbS rs n10 n3 n2)] fun x=>AV.bx x&&Nat.beq (Zab A x) 1,decide ((0≤n10∧n10< ↑(List.length rs))∧(-1000000≤n3∧n3≤1000000)∧ -1000000≤n2∧n2≤1000000),decide (0≤n10∧n10< ↑(List.length rs)),decide (List.length (Zax rs n10)≤1000000),decide (0≤n10∧n10< ↑(List.length rs)),A.lt n10 n8],
  AV.tup [AV.agg (Row.gen [.int .i64 3, .int .i64 n10]),AV.int .i64 (Zao [Zad (ZaR (Zax rs n10)) 4,Zad (A.not (A.hasS x11 (Zax rs n10))) 5,ZbS rs n10 n3 n2])],none):=by kernel_rfl
theorem Zyw(A:Ar)(ms ks rs:List AV)(n1 n2 n3 n8 n9 n10:Int)(x11:List AV):ZaI A tab B3 59 [true,false] (Zct ms ks rs n1 n2 n3 n8 n9 n10 x11) (Zb7 ms ks rs n1 n2 n3 n8 n9 n10 x11)=
 some (tr [1,0,0,3,3,0,0,5,4,0,4,1] [A.inR .i64 (A.add n10 1),A.not (A.hasS x11 (Zax rs n10)),decide (0≤n10∧n10< ↑(List.length rs)),!A.not (A.eq (Zao [Zad (ZaR (Zax rs n10)) 4,Zad (A.not (A.hasS x11 (Zax rs n10))) 5,ZbS rs n10 n3 n2]) 0),decide (List.length [Zad (ZaR (Zax rs n10)) 4,Zad (A.not (A.hasS x11 (Zax rs n10))) 5,ZbS rs n10 n3 n2]≤1000000),List.all [AV.int .i64 (Zad (ZaR (Zax rs n10)) 4),AV.int .i64 (Zad (A.not (A.hasS x11 (Zax rs n10))) 5),AV.int .i64 (ZbS rs n10 n3 n2)] fun x=>AV.bx x&&Nat.beq (Zab A x) 1,decide ((0≤n10∧n10< ↑(List.length rs))∧(-1000000≤n3∧n3≤1000000)∧ -1000000≤n2∧n2≤1000000),decide (0≤n10∧n10< ↑(List.length rs)),decide (List.length (Zax rs n10)≤1000000),decide (0≤n10∧n10< ↑(List.length rs)),A.lt n10 n8],
  ZhX (ms) (ks) (rs) (n1) (n2) (n3) (n8) (n9) (A.add n10 1) (A.appA x11 [AV.str (Zax rs n10)])):=by kernel_rfl
theorem Zww(A:Ar)(ms ks rs:List AV)(n1 n2 n3 n8 n9 n10:Int)(x11:List AV):Zbd A tab B3 15 [false] 136 (Zct ms ks rs n1 n2 n3 n8 n9 n10 x11) (Zb7 ms ks rs n1 n2 n3 n8 n9 n10 x11)=
 some (tr [8,1] [!A.lt n10 n8],
  AV.tup [AV.agg (Row.gen [.int .i64 0, .int .i64 0]),AV.int .i64 0],none):=by kernel_rfl
end Go.Proofs.YtkeoeooghhjibaaGreatDoor
/- CheckModel of the program. No condition. -/
namespace Go.Proofs.YtkeoeooghhjibaaGreatDoor
def Zbi(p i e:Int):AV:=.tup [.agg (.gen [.int .i64 p, .int .i64 i]), .int .i64 e]
def Zc4(nm:List UInt8)(ex:Int)(xs:List AV):Int:=Zao [Zad (ZaR nm) 4,Zad (!std.hasS xs nm) 5,ex]
def Zcp(a b:Bool):Int:=Zao [Zad a 10,Zad b 8]
def Zbk(nm:Nat→List UInt8)(ex:Nat→Int):Nat→Nat→List AV→Option (Nat×Int)
 |0,_,_=>none
 |m+1,k,xs=>if Zc4 (nm k) (ex k) xs=0 then Zbk nm ex m (k+1) (xs++[.str (nm k)])else some (k,Zc4 (nm k) (ex k) xs)
def ZbG(p:Int)(o:Option (Nat×Int))(d:AV):AV:=match o with |some (k,e)=>Zbi p k e |none=>d
def Zqy(ms ks rs:List AV):AV:=ZbG 3 (Zbk (fun k=>Zax rs k) (fun k=>ZbS rs k ks.length ms.length) rs.length 0 []) (Zbi 0 0 0)
def Zn1(ms ks rs:List AV):AV:=ZbG 2 (Zbk (fun k=>Zax ks k) (fun k=>Zc3 ks k ms.length) ks.length 0 []) (if Zcp (decide (0≤(rs.length:Int))) (decide ((rs.length:Int)≤10))=0 then Zqy ms ks rs else Zbi 3 0 (Zcp (decide (0≤(rs.length:Int))) (decide ((rs.length:Int)≤10))))
def Zsm(ms ks rs:List AV):AV:=ZbG 1 (Zbk (fun k=>Za2 ms k) (fun _=>0) ms.length 0 []) (if Zcp (decide (1≤(ks.length:Int))) (decide ((ks.length:Int)≤8))=0 then Zn1 ms ks rs else Zbi 2 0 (Zcp (decide (1≤(ks.length:Int))) (decide ((ks.length:Int)≤8))))
def ZdS(ms ks rs:List AV):AV:=if Zcp (decide (1≤(ms.length:Int))) (decide ((ms.length:Int)≤6))=0 then Zsm ms ks rs else Zbi 1 0 (Zcp (decide (1≤(ms.length:Int))) (decide ((ms.length:Int)≤6)))
def ZaH(ms ks rs:List AV):Bool:=(ms.all fun x=>decide (x.toS.length≤1000000))&&(ks.all fun x=>decide ((x.cellAt 0).toS.length≤1000000))&&(rs.all fun x=>decide ((x.cellAt 0).toS.length≤1000000))&&decide (ms.length≤1000000∧ks.length≤1000000∧rs.length≤1000000)
theorem Zs1{xs:List AV}{k:Nat}(h:k<xs.length):xs.getD k .top∈xs:=by
 rw[List.getD_eq_getElem?_getD,List.getElem?_eq_getElem h];exact List.getElem_mem h
theorem Zcl{ks:List AV}(h:(ks.all fun x=>decide ((x.cellAt 0).toS.length≤1000000))=true){k:Nat}(hk:k<ks.length):(Zax ks k).length≤1000000:=by
 have:=List.all_eq_true.1 h _ (Zs1 hk)
 simpa[Zax]using this
theorem ZkO{ks:List AV}(h:(ks.all fun x=>decide (x.toS.length≤1000000))=true){k:Nat}(hk:k<ks.length):(Za2 ks k).length≤1000000:=by
 have:=List.all_eq_true.1 h _ (Zs1 hk)
 simpa[Za2]using this
theorem ZuY{a b c:Int}(h:Zao [a,b,c]=0):a=0∧b=0∧c=0:=by
 simp only[Zao]at h
 by_cases h1:a=0
 ·by_cases h2:b=0
  ·by_cases h3:c=0
   ·exact⟨h1,h2,h3⟩
   ·simp[h1,h2,h3]at h
  ·simp[h1,h2]at h
 ·simp[h1]at h
theorem Zly{nm:List UInt8}{ex:Int}{xs:List AV}(h:Zc4 nm ex xs=0):std.hasS xs nm=false:=by
 have:=(ZuY h).2.1
 unfold Zad at this
 split at this
 ·rename_i e;simpa using e
 ·cases this
theorem bx3(x y z:Int):([AV.int .i64 x,AV.int .i64 y,AV.int .i64 z].all fun x=>AV.bx x&&Nat.beq (Zab std x) 1)=true:=rfl
theorem bx2(x y:Int):([AV.int .i64 x,AV.int .i64 y].all fun x=>AV.bx x&&Nat.beq (Zab std x) 1)=true:=rfl
section
variable {C:Ctx}(hC:C.P=Tryz.prog)(ms ks rs:List AV)(hs:ZaH ms ks rs=true)
include hC hs
theorem ZEY(n1:Int):∀(m k:Nat) (xs:List AV),k+m=rs.length→Ev C (Zct ms ks rs n1 ms.length ks.length rs.length rs.length k xs) (Zb7 ms ks rs n1 ms.length ks.length rs.length rs.length k xs)
 (ZbH 136 (ZbG 3 (Zbk (fun k=>Zax rs k) (fun k=>ZbS rs k ks.length ms.length) m k xs) (Zbi 0 0 0)) none)
 |0,k,xs,hk=>fin hC ZbF (Zww std ms ks rs n1 ms.length ks.length rs.length rs.length k xs) (by simp;omega) rfl rfl
 |m+1,k,xs,hk=>by
  simp only[ZaH,Bool.and_eq_true,decide_eq_true_eq]at hs
  have hn:=Zcl hs.1.2 (show k<rs.length by omega)
  by_cases h:Zc4 (Zax rs k) (ZbS rs k ks.length ms.length) xs=0
  ·have hnew:=Zly h
   have h':=h
   unfold Zc4 at h'
   refine go hC ZbF (Zyw std ms ks rs n1 ms.length ks.length rs.length rs.length k xs) (by simp only[bx3];simp[-Zew,hnew,hn];simp[-Zew,hnew]at h';simp[h'];omega) ?_
   have:=ZEY n1 m (k+1) (xs++[.str (Zax rs k)]) (by omega)
   rw[Zbk,if_pos h]
   exact this
  ·have h':=h
   unfold Zc4 at h'
   rw[Zbk,if_neg h]
   exact fin hC ZbF (ZxK std ms ks rs n1 ms.length ks.length rs.length rs.length k xs) (by simp only[bx3];simp[-Zew,hn,h'];omega) rfl rfl
theorem ZBb(n1:Int):∀(m k:Nat) (xs:List AV),k+m=ks.length→Ev C (ZbP ms ks rs n1 ms.length ks.length k xs) (Zby ms ks rs n1 ms.length ks.length k xs)
 (ZbH 136 (ZbG 2 (Zbk (fun k=>Zax ks k) (fun k=>Zc3 ks k ms.length) m k xs) (if Zcp (decide (0≤(rs.length:Int))) (decide ((rs.length:Int)≤10))=0 then Zqy ms ks rs else Zbi 3 0 (Zcp (decide (0≤(rs.length:Int))) (decide ((rs.length:Int)≤10))))) none)
 |0,k,xs,hk=>by
  by_cases h:Zcp (decide (0≤(rs.length:Int))) (decide ((rs.length:Int)≤10))=0
  ·have h':=h
   unfold Zcp at h'
   rw[if_pos h]
   refine go hC ZbF (ZBV std ms ks rs n1 ms.length ks.length k xs) (by simp only[bx2,Zz4,Zq5,Zku,h'];simp;omega) ?_
   exact ZEY hC ms ks rs hs n1 rs.length 0 [] (by omega)
  ·have h':=h
   unfold Zcp at h'
   rw[if_neg h]
   exact fin hC ZbF (ZBM std ms ks rs n1 ms.length ks.length k xs) (by simp only[bx2,ZGO,Zz4,Zq5,Zku,h'];simp;omega) rfl rfl
 |m+1,k,xs,hk=>by
  have hs':=hs
  simp only[ZaH,Bool.and_eq_true,decide_eq_true_eq]at hs'
  have hn:=Zcl hs'.1.1.2 (show k<ks.length by omega)
  by_cases h:Zc4 (Zax ks k) (Zc3 ks k ms.length) xs=0
  ·have hnew:=Zly h
   have h':=h
   unfold Zc4 at h'
   refine go hC ZbF (ZAC std ms ks rs n1 ms.length ks.length k xs) (by simp only[bx3];simp[-Zew,hnew,hn];simp[-Zew,hnew]at h';simp[h'];omega) ?_
   have:=ZBb n1 m (k+1) (xs++[.str (Zax ks k)]) (by omega)
   rw[Zbk,if_pos h]
   exact this
  ·have h':=h
   unfold Zc4 at h'
   rw[Zbk,if_neg h]
   exact fin hC ZbF (ZAZ std ms ks rs n1 ms.length ks.length k xs) (by simp only[bx3];simp[-Zew,hn,h'];omega) rfl rfl
theorem ZBU(n1:Int):∀(m k:Nat) (xs:List AV),k+m=ms.length→Ev C (ZbM ms ks rs ms.length n1 ms.length ks.length k xs) (ZbC ms ks rs ms.length n1 ms.length ks.length k xs)
 (ZbH 136 (ZbG 1 (Zbk (fun k=>Za2 ms k) (fun _=>0) m k xs) (if Zcp (decide (1≤(ks.length:Int))) (decide ((ks.length:Int)≤8))=0 then Zn1 ms ks rs else Zbi 2 0 (Zcp (decide (1≤(ks.length:Int))) (decide ((ks.length:Int)≤8))))) none)
 |0,k,xs,hk=>by
  by_cases h:Zcp (decide (1≤(ks.length:Int))) (decide ((ks.length:Int)≤8))=0
  ·have h':=h
   unfold Zcp at h'
   rw[if_pos h]
   refine go hC ZbF (ZCu std ms ks rs ms.length n1 ms.length ks.length k xs) (by simp only[bx2,Zz4,Zq5,Zku,h'];simp;omega) ?_
   exact ZBb hC ms ks rs hs n1 ks.length 0 [] (by omega)
  ·have h':=h
   unfold Zcp at h'
   rw[if_neg h]
   exact fin hC ZbF (ZEe std ms ks rs ms.length n1 ms.length ks.length k xs) (by simp only[bx2,ZGO,Zz4,Zq5,Zku,h'];simp;omega) rfl rfl
 |m+1,k,xs,hk=>by
  have hs':=hs
  simp only[ZaH,Bool.and_eq_true,decide_eq_true_eq]at hs'
  have hn:=ZkO hs'.1.1.1 (show k<ms.length by omega)
  by_cases h:Zc4 (Za2 ms k) 0 xs=0
  ·have hnew:=Zly h
   have h':=h
   unfold Zc4 at h'
   refine go hC ZbF (ZDk std ms ks rs ms.length n1 ms.length ks.length k xs) (by simp only[bx3];simp[-Zew,hnew,hn];simp[-Zew,hnew]at h';simp[h'];omega) ?_
   have:=ZBU n1 m (k+1) (xs++[.str (Za2 ms k)]) (by omega)
   rw[Zbk,if_pos h]
   exact this
  ·have h':=h
   unfold Zc4 at h'
   rw[Zbk,if_neg h]
   exact fin hC ZbF (ZCF std ms ks rs ms.length n1 ms.length ks.length k xs) (by simp only[bx3];simp[-Zew,hn,h'];omega) rfl rfl
end
theorem ZrP(ms ks rs:List AV)(hs:ZaH ms ks rs=true):Zat Tryz.prog 136 [.agg (.gen [.list (.big .str ms), .list (.big (.agg [.str, .int .i64]) ks), .list (.big (.agg [.str, .int .i64, .int .i64, .int .i64, .int .i64]) rs)])] (ZdS ms ks rs) none:=
 start (ZtW ms ks rs) fun C hC=>by
  by_cases h:Zcp (decide (1≤(ms.length:Int))) (decide ((ms.length:Int)≤6))=0
  ·have h':=h
   unfold Zcp at h'
   rw[ZdS,if_pos h]
   refine go hC ZbF (ZAF std ms ks rs) (by simp only[bx2,Zz4,Zq5,Zku,h'];simp) ?_
   exact ZBU hC ms ks rs hs ms.length ms.length 0 [] (by omega)
  ·have h':=h
   unfold Zcp at h'
   rw[ZdS,if_neg h]
   exact fin hC ZbF (ZER std ms ks rs) (by simp only[bx2,ZGO,Zz4,Zq5,Zku,h'];simp) rfl rfl
end Go.Proofs.YtkeoeooghhjibaaGreatDoor
/- Contracts as a list. No condition. -/
namespace Go.Proofs.YtkeoeooghhjibaaGreatDoor
theorem Zsb(s:List UInt8):Zat Tryz.prog 151 [.nils, .str s] (.bool false) none:=
 start (Zrx s) fun C hC=>go hC ZbF (ZzY std s) (by simp) (fin hC ZbF (Zxs std s) (by simp) rfl rfl)
def mP:AV→Int
 | .tup [.agg (.gen [.int _ p,_]),_]=>p
 |_=>0
def mI:AV→Int
 | .tup [.agg (.gen [_, .int _ i]),_]=>i
 |_=>0
def mE:AV→Int
 | .tup [_, .int _ e]=>e
 |_=>0
def isM(v:AV):Prop:=∃p i e,v=Zbi p i e
theorem isM.eq{v:AV}(h:isM v):v=Zbi (mP v) (mI v) (mE v):=by
 obtain⟨p,i,e,rfl⟩:=h
 rfl
theorem isM.scan{p:Int}{o:Option (Nat×Int)}{d:AV}(h:isM d):isM (ZbG p o d):=by
 unfold ZbG
 split
 ·exact⟨_,_,_,rfl⟩
 ·exact h
theorem isM.ite{c:Prop}[Decidable c]{a b:AV}(ha:isM a)(hb:isM b):isM (if c then a else b):=by
 split
 ·exact ha
 ·exact hb
theorem Zif(p i e:Int):isM (Zbi p i e):=⟨_,_,_,rfl⟩
theorem Zm9(ms ks rs:List AV):isM (ZdS ms ks rs):=
 .ite (.scan (.ite (.scan (.ite (.scan (Zif _ _ _)) (Zif _ _ _))) (Zif _ _ _))) (Zif _ _ _)
def Zmv(ms ks rs:List AV):Int:=mP (ZdS ms ks rs)
def Znm(ms ks rs:List AV):Int:=mI (ZdS ms ks rs)
def Zaj(ms ks rs:List AV):Int:=mE (ZdS ms ks rs)
theorem ZqH(ms ks rs:List AV)(hs:ZaH ms ks rs=true):Zat Tryz.prog 136 [.agg (.gen [.list (.big .str ms), .list (.big (.agg [.str, .int .i64]) ks), .list (.big (.agg [.str, .int .i64, .int .i64, .int .i64, .int .i64]) rs)])] (.tup [.agg (.gen [.int .i64 (Zmv ms ks rs), .int .i64 (Znm ms ks rs)]), .int .i64 (Zaj ms ks rs)]) none:=by
 have:=ZrP ms ks rs hs
 rw[(Zm9 ms ks rs).eq]at this
 exact this
def k151n:Ctr:=⟨151,0,fun _ a=>match a with |[.nils, .str _]=>some (true, .bool false,none) |_=>none⟩
theorem Zuo:k151n.OK Tryz.prog:=fun pa args r fr h=>by
 simp only[k151n]at h
 split at h
 ·cases h
  exact Zsb _
 ·cases h
def k136:Ctr:=⟨136,0,fun _ a=>match a with |[.agg (.gen [.list (.big .str ms), .list (.big (.agg [.str, .int .i64]) ks), .list (.big (.agg [.str, .int .i64, .int .i64, .int .i64, .int .i64]) rs)])]=>some (decide (ZaH ms ks rs=true), .tup [.agg (.gen [.int .i64 (Zmv ms ks rs), .int .i64 (Znm ms ks rs)]), .int .i64 (Zaj ms ks rs)],none) |_=>none⟩
theorem Zw5:k136.OK Tryz.prog:=fun pa args r fr h=>by
 simp only[k136]at h
 split at h
 ·simp only[Option.some.injEq,Prod.mk.injEq,decide_eq_true_eq]at h
  obtain⟨h0,rfl,rfl⟩:=h
  exact ZqH _ _ _ h0
 ·cases h
def B4:List Ctr:=[k151n,k136]++B3
theorem ZEf:Zaw Tryz.prog B4:=⟨Zuo,⟨Zw5,ZbF⟩⟩
end Go.Proofs.YtkeoeooghhjibaaGreatDoor
/- Paths of functions, printed by the explorer (Gx). No condition. -/
namespace Go.Proofs.YtkeoeooghhjibaaGreatDoor
set_option maxRecDepth 100000
set_option linter.unusedVariables false
def ZBl(ms ks rs:List AV):AFrame:={ fn:=88,N:=11,env:=[(0,AV.agg (Row.gen [.list (Row.big .str ms), .list (Row.big (.agg [.str, .int .i64]) ks), .list (Row.big (.agg [.str, .int .i64, .int .i64, .int .i64, .int .i64]) rs)]))],todo:=[.code a88.code],defs:=[],rnd:=none,ret:=false,res:=[ARes.tmp 2] }
def ZKy(ms ks rs:List AV):List AFrame:=[(ZBl ms ks rs)]
theorem Zxz(ms ks rs:List AV):ZaA tab 88 [AV.agg (Row.gen [.list (Row.big .str ms), .list (Row.big (.agg [.str, .int .i64]) ks), .list (Row.big (.agg [.str, .int .i64, .int .i64, .int .i64, .int .i64]) rs)])]=some (ZBl ms ks rs):=rfl
theorem ZGz(A:Ar)(ms ks rs:List AV):Zbd A tab B4 23 [] 88 (ZKy ms ks rs) []=
 some (tr [9,3] [decide (ZaH ms ks rs=true)],
  AV.int .i64 (Zaj ms ks rs),none):=by kernel_rfl
end Go.Proofs.YtkeoeooghhjibaaGreatDoor
/- Contracts as a list. No condition. -/
namespace Go.Proofs.YtkeoeooghhjibaaGreatDoor
theorem Zpy(ms ks rs:List AV)(h:ZaH ms ks rs=true):Zat Tryz.prog 88 [.agg (.gen [.list (.big .str ms), .list (.big (.agg [.str, .int .i64]) ks), .list (.big (.agg [.str, .int .i64, .int .i64, .int .i64, .int .i64]) rs)])] (.int .i64 (Zaj ms ks rs)) none:=
 start (Zxz ms ks rs) fun C hC=>fin hC ZEf (ZGz std ms ks rs) (by simp[h]) rfl rfl
def k88:Ctr:=⟨88,0,fun _ a=>match a with |[.agg (.gen [.list (.big .str ms), .list (.big (.agg [.str, .int .i64]) ks), .list (.big (.agg [.str, .int .i64, .int .i64, .int .i64, .int .i64]) rs)])]=>some (decide (ZaH ms ks rs=true), .int .i64 (Zaj ms ks rs),none) |_=>none⟩
theorem ZBx:k88.OK Tryz.prog:=fun pa args r fr h=>by
 simp only[k88]at h
 split at h
 ·simp only[Option.some.injEq,Prod.mk.injEq,decide_eq_true_eq]at h
  obtain⟨h0,rfl,rfl⟩:=h
  exact Zpy _ _ _ h0
 ·cases h
def B5:List Ctr:=[k88]++B4
theorem ZHe:Zaw Tryz.prog B5:=⟨ZBx,ZEf⟩
end Go.Proofs.YtkeoeooghhjibaaGreatDoor
/- CheckFile of the program. No condition. -/
namespace Go.Proofs.YtkeoeooghhjibaaGreatDoor
def ZEg(i e:Int):AV:=.tup [.int .i64 i, .int .i64 e]
end Go.Proofs.YtkeoeooghhjibaaGreatDoor
/- Few. No condition. -/
namespace Go.Proofs.YtkeoeooghhjibaaGreatDoor
def ZDL(x:AV):Bool:=decide (x.toS.length≤20)
def Zrc(x:AV):Bool:=decide ((x.cellAt 0).toS.length≤20)
def Zti(ms ks rs:List AV):Bool:=decide (ms.length≤8∧ks.length≤10∧rs.length≤12)&&(ms.all ZDL&&(ks.all Zrc&&rs.all Zrc))
theorem ZnL{xs:List AV}{k:Nat}(h:k<xs.length):xs.drop k=xs.getD k .top::xs.drop (k+1):=by
 rw[List.drop_eq_getElem_cons h,List.getD_eq_getElem?_getD,List.getElem?_eq_getElem h];rfl
section
variable {C:Ctx}(hC:C.P=Tryz.prog)(ms ks rs:List AV)(hl:ms.length≤8∧ks.length≤10∧rs.length≤12)
include hC hl
theorem ZEL:∀(m k:Nat),k+m=rs.length→Ev C (ZdT ms ks rs k) (Zdb ms ks rs k) (ZbH 23 (.bool ((rs.drop k).all Zrc)) none)
 |0,k,h=>fin hC ZbF (ZEx std ms ks rs k) (by simp;omega) (by rw[List.drop_of_length_le (by omega)];rfl) rfl
 |m+1,k,h=>by
  rw[ZnL (show k<rs.length by omega)]
  by_cases h1:((rs.getD k .top).cellAt 0).toS.length≤20
  ·refine go hC ZbF (ZD8 std ms ks rs k) (by simp[-List.getD_eq_getElem?_getD];omega) ?_
   rw[List.all_cons,show Zrc (rs.getD k .top)=true from decide_eq_true h1,Bool.true_and]
   exact ZEL m (k+1) (by omega)
  ·exact fin hC ZbF (ZA1 std ms ks rs k) (by simp[-List.getD_eq_getElem?_getD];omega) (by rw[List.all_cons,show Zrc (rs.getD k .top)=false from decide_eq_false h1,Bool.false_and]) rfl
theorem ZAI:∀(m k:Nat),k+m=ks.length→Ev C (Zd9 ms ks rs k) (Zdc ms ks rs k) (ZbH 23 (.bool ((ks.drop k).all Zrc&&rs.all Zrc)) none)
 |0,k,h=>by
  refine go hC ZbF (ZGg std ms ks rs k) (by simp;omega) ?_
  rw[List.drop_of_length_le (by omega)]
  exact ZEL hC ms ks rs hl rs.length 0 (by omega)
 |m+1,k,h=>by
  rw[ZnL (show k<ks.length by omega)]
  by_cases h1:((ks.getD k .top).cellAt 0).toS.length≤20
  ·refine go hC ZbF (ZFY std ms ks rs k) (by simp[-List.getD_eq_getElem?_getD];omega) ?_
   rw[List.all_cons,show Zrc (ks.getD k .top)=true from decide_eq_true h1,Bool.true_and]
   exact ZAI m (k+1) (by omega)
  ·exact fin hC ZbF (ZF4 std ms ks rs k) (by simp[-List.getD_eq_getElem?_getD];omega) (by rw[List.all_cons,show Zrc (ks.getD k .top)=false from decide_eq_false h1,Bool.false_and,Bool.false_and]) rfl
theorem ZCQ:∀(m k:Nat),k+m=ms.length→Ev C (Zeg ms ks rs k) (Zc9 ms ks rs k) (ZbH 23 (.bool ((ms.drop k).all ZDL&&(ks.all Zrc&&rs.all Zrc))) none)
 |0,k,h=>by
  refine go hC ZbF (ZGU std ms ks rs k) (by simp;omega) ?_
  rw[List.drop_of_length_le (by omega)]
  exact ZAI hC ms ks rs hl ks.length 0 (by omega)
 |m+1,k,h=>by
  rw[ZnL (show k<ms.length by omega)]
  by_cases h1:(ms.getD k .top).toS.length≤20
  ·refine go hC ZbF (ZG6 std ms ks rs k) (by simp[-List.getD_eq_getElem?_getD];omega) ?_
   rw[List.all_cons,show ZDL (ms.getD k .top)=true from decide_eq_true h1,Bool.true_and]
   exact ZCQ m (k+1) (by omega)
  ·exact fin hC ZbF (ZFV std ms ks rs k) (by simp[-List.getD_eq_getElem?_getD];omega) (by rw[List.all_cons,show ZDL (ms.getD k .top)=false from decide_eq_false h1,Bool.false_and,Bool.false_and]) rfl
end
theorem Zx4(ms ks rs:List AV):Zat Tryz.prog 23 [.agg (.gen [.list (.big .str ms), .list (.big (.agg [.str, .int .i64]) ks), .list (.big (.agg [.str, .int .i64, .int .i64, .int .i64, .int .i64]) rs)])] (.bool (Zti ms ks rs)) none:=
 start (ZzW ms ks rs) fun C hC=>by
  by_cases h1:ms.length≤8
  ·by_cases h2:ks.length≤10
   ·by_cases h3:rs.length≤12
    ·refine go hC ZbF (ZGn std ms ks rs) (by simp;omega) ?_
     unfold Zti
     rw[decide_eq_true ⟨h1,h2,h3⟩,Bool.true_and]
     exact ZCQ hC ms ks rs ⟨h1,h2,h3⟩ ms.length 0 (by omega)
    ·exact fin hC ZbF (ZGX std ms ks rs) (by simp;omega) (by simp[Zti,h3]) rfl
   ·exact fin hC ZbF (ZFM std ms ks rs) (by simp;omega) (by simp[Zti,h2]) rfl
  ·exact fin hC ZbF (ZGi std ms ks rs) (by simp;omega) (by simp[Zti,h1]) rfl
end Go.Proofs.YtkeoeooghhjibaaGreatDoor
/- Contracts as a list. No condition. -/
namespace Go.Proofs.YtkeoeooghhjibaaGreatDoor
def k23:Ctr:=⟨23,0,fun _ a=>match a with |[.agg (.gen [.list (.big .str ms), .list (.big (.agg [.str, .int .i64]) ks), .list (.big (.agg [.str, .int .i64, .int .i64, .int .i64, .int .i64]) rs)])]=>some (true, .bool (Zti ms ks rs),none) |_=>none⟩
theorem ZCG:k23.OK Tryz.prog:=fun pa args r fr h=>by
 simp only[k23]at h
 split at h
 ·cases h
  exact Zx4 _ _ _
 ·cases h
def B6:List Ctr:=[k23]++B5
theorem Zh7:Zaw Tryz.prog B6:=⟨ZCG,ZHe⟩
end Go.Proofs.YtkeoeooghhjibaaGreatDoor
/- Paths of functions, printed by the explorer (Gx). No condition. -/
namespace Go.Proofs.YtkeoeooghhjibaaGreatDoor
set_option maxRecDepth 100000
set_option linter.unusedVariables false
def Zvs(ms ks rs:List AV):AFrame:={ fn:=119,N:=188,env:=[(0,AV.agg (Row.gen [.list (Row.big .str ms), .list (Row.big (.agg [.str, .int .i64]) ks), .list (Row.big (.agg [.str, .int .i64, .int .i64, .int .i64, .int .i64]) rs)]))],todo:=[.code a119.code],defs:=[],rnd:=none,ret:=false,res:=[ARes.cell 2 true 2,ARes.tmp 3] }
def ZG9(ms ks rs:List AV):List AFrame:=[(Zvs ms ks rs)]
theorem Ztm(ms ks rs:List AV):ZaA tab 119 [AV.agg (Row.gen [.list (Row.big .str ms), .list (Row.big (.agg [.str, .int .i64]) ks), .list (Row.big (.agg [.str, .int .i64, .int .i64, .int .i64, .int .i64]) rs)])]=some (Zvs ms ks rs):=rfl
def Zfi(ms ks rs:List AV)(n0:Int):List AFrame:=[{ fn:=119,N:=188,env:=[(1,AV.ptr 119002 0 0 0),(2,AV.ptr 119003 0 0 0),(4,AV.int .i64 n0)],todo:=.code (ACode.gh [] Zwb)::ZCT,defs:=[],rnd:=none,ret:=false,res:=[ARes.cell 2 true 2,ARes.tmp 3] }]
def Zei(ms ks rs:List AV)(n0:Int):Zaa:=[(119002,{ base:=0,blks:=[Blk.row 26 3 (Row.gen [AV.agg (Row.gen [AV.list (Row.big .str ms),AV.list (Row.big (.agg [.str, .int .i64]) ks),AV.list (Row.big (.agg [.str, .int .i64, .int .i64, .int .i64, .int .i64]) rs)])])] }),(119003,{ base:=0,blks:=[Blk.row 195 2 (Row.gen [AV.agg (Row.gen [AV.int .i64 0,AV.int .i64 0])])] })]
abbrev ZhH(ms ks rs:List AV)(n0:Int):List AFrame×Zaa:=(Zfi ms ks rs n0,Zei ms ks rs n0)
def Zdu(ms ks rs:List AV):List AFrame:=[{ fn:=119,N:=188,env:=[(1,AV.ptr 119002 0 0 0),(2,AV.ptr 119003 0 0 0),(5,AV.nils),(6,AV.int .i64 0)],todo:=.code (ACode.gh [] ZrJ)::Zwc,defs:=[],rnd:=none,ret:=false,res:=[ARes.cell 2 true 2,ARes.tmp 3] }]
def ZcX(ms ks rs:List AV):Zaa:=[(119002,{ base:=0,blks:=[Blk.row 26 3 (Row.gen [AV.agg (Row.gen [AV.list (Row.big .str ms),AV.list (Row.big (.agg [.str, .int .i64]) ks),AV.list (Row.big (.agg [.str, .int .i64, .int .i64, .int .i64, .int .i64]) rs)])])] }),(119003,{ base:=0,blks:=[Blk.row 195 2 (Row.gen [AV.agg (Row.gen [AV.int .i64 0,AV.int .i64 0])])] })]
abbrev ZmG(ms ks rs:List AV):List AFrame×Zaa:=(Zdu ms ks rs,ZcX ms ks rs)
def Zfg(ms ks rs:List AV)(n1:Int)(x2:List AV):List AFrame:=[{ fn:=119,N:=188,env:=[(1,AV.ptr 119002 0 0 0),(2,AV.ptr 119003 0 0 0),(5,AV.row 119093 0),(6,AV.int .i64 n1)],todo:=.code (ACode.gh [] ZrJ)::Zwc,defs:=[],rnd:=none,ret:=false,res:=[ARes.cell 2 true 2,ARes.tmp 3] }]
def Zd5(ms ks rs:List AV)(n1:Int)(x2:List AV):Zaa:=[(119002,{ base:=0,blks:=[Blk.row 26 3 (Row.gen [AV.agg (Row.gen [AV.list (Row.big .str ms),AV.list (Row.big (.agg [.str, .int .i64]) ks),AV.list (Row.big (.agg [.str, .int .i64, .int .i64, .int .i64, .int .i64]) rs)])])] }),(119003,{ base:=0,blks:=[Blk.row 195 2 (Row.gen [AV.agg (Row.gen [AV.int .i64 0,AV.int .i64 0])])] }),(119093,{ base:=0,blks:=[Blk.row 9 1 (Row.big .str x2)] })]
abbrev Zhv(ms ks rs:List AV)(n1:Int)(x2:List AV):List AFrame×Zaa:=(Zfg ms ks rs n1 x2,Zd5 ms ks rs n1 x2)
def ZdC(ms ks rs:List AV):List AFrame:=[{ fn:=119,N:=188,env:=[(1,AV.ptr 119002 0 0 0),(2,AV.ptr 119003 0 0 0),(5,AV.nils),(7,AV.int .i64 0)],todo:=.code (ACode.gh [] ZsV)::Zvj,defs:=[],rnd:=none,ret:=false,res:=[ARes.cell 2 true 2,ARes.tmp 3] }]
def ZcV(ms ks rs:List AV):Zaa:=[(119002,{ base:=0,blks:=[Blk.row 26 3 (Row.gen [AV.agg (Row.gen [AV.list (Row.big .str ms),AV.list (Row.big (.agg [.str, .int .i64]) ks),AV.list (Row.big (.agg [.str, .int .i64, .int .i64, .int .i64, .int .i64]) rs)])])] }),(119003,{ base:=0,blks:=[Blk.row 195 2 (Row.gen [AV.agg (Row.gen [AV.int .i64 0,AV.int .i64 0])])] })]
abbrev Zhw(ms ks rs:List AV):List AFrame×Zaa:=(ZdC ms ks rs,ZcV ms ks rs)
def Zfn(ms ks rs:List AV)(n3:Int)(x4:List AV):List AFrame:=[{ fn:=119,N:=188,env:=[(1,AV.ptr 119002 0 0 0),(2,AV.ptr 119003 0 0 0),(5,AV.row 119141 0),(7,AV.int .i64 n3)],todo:=.code (ACode.gh [] ZsV)::Zvj,defs:=[],rnd:=none,ret:=false,res:=[ARes.cell 2 true 2,ARes.tmp 3] }]
def ZdN(ms ks rs:List AV)(n3:Int)(x4:List AV):Zaa:=[(119002,{ base:=0,blks:=[Blk.row 26 3 (Row.gen [AV.agg (Row.gen [AV.list (Row.big .str ms),AV.list (Row.big (.agg [.str, .int .i64]) ks),AV.list (Row.big (.agg [.str, .int .i64, .int .i64, .int .i64, .int .i64]) rs)])])] }),(119003,{ base:=0,blks:=[Blk.row 195 2 (Row.gen [AV.agg (Row.gen [AV.int .i64 0,AV.int .i64 0])])] }),(119141,{ base:=0,blks:=[Blk.row 9 1 (Row.big .str x4)] })]
abbrev ZcZ(ms ks rs:List AV)(n3:Int)(x4:List AV):List AFrame×Zaa:=(Zfn ms ks rs n3 x4,ZdN ms ks rs n3 x4)
def ZpB(A:Ar)(K:KT)(F:FT)(ms ks rs:List AV):Prop:=bB (A.eq (A.int (A.lenA ms)) 0) (F (AV.tup [AV.agg (Row.gen [.int .i64 1, .int .i64 0]),AV.int .i64 10]) (none)) (bB (A.lt 6 (A.int (A.lenA ms))) (F (AV.tup [AV.agg (Row.gen [.int .i64 1, .int .i64 0]),AV.int .i64 8]) (none)) (K (ZhH (ms) (ks) (rs) (0))))
theorem ZAf{A:Ar}{K:KT}{F:FT}{M:MT}{ms ks rs:List AV} :ZaG A tab B6 119 K F M (.run 14 (.tf (.run 20 (.fn)) (.run 9 (.tf (.run 20 (.fn)) (.run 9 (.hd)))))) (ZG9 ms ks rs) []=ZpB A K F ms ks rs:=by kernel_rfl
def Zb2(A:Ar)(K:KT)(F:FT)(ms ks rs:List AV)(n0:Int):Prop:=bB (A.lt n0 (A.int (A.lenA ms))) (rB [decide (List.length (AV.toS (A.nthA ms (A.nat n0)))≤1000000),Zae (Zae (A.le 0 n0) (Nat.blt (A.nat n0) (A.lenA ms))) true] (bB (A.not (ZaR (AV.toS (A.nthA ms (A.nat n0))))) (F (AV.tup [AV.agg (Row.gen [.int .i64 1, .int .i64 n0]),AV.int .i64 4]) (none)) (rB [decide (List.length (A.subA ms 0 (A.nat n0-0))≤1000000),Zae (Zae (A.le 0 n0) (Nat.blt (A.nat n0) (A.lenA ms))) true,Zae (A.le 0 n0) (Zae (Zae (Nat.ble 0 (A.nat n0)) (Nat.ble (A.nat n0) (A.lenA ms))) true)] (bB (ZjP (A.subA ms 0 (A.nat n0-0)) (AV.toS (A.nthA ms (A.nat n0)))) (F (AV.tup [AV.agg (Row.gen [.int .i64 1, .int .i64 n0]),AV.int .i64 5]) (none)) (rB [A.inR .i64 (A.add n0 1)] (K (ZhH (ms) (ks) (rs) (A.add n0 1)))))))) (bB (A.eq (A.int (A.lenA ks)) 0) (F (AV.tup [AV.agg (Row.gen [.int .i64 2, .int .i64 0]),AV.int .i64 10]) (none)) (bB (A.lt 8 (A.int (A.lenA ks))) (F (AV.tup [AV.agg (Row.gen [.int .i64 2, .int .i64 0]),AV.int .i64 8]) (none)) (K (ZmG (ms) (ks) (rs)))))
theorem ZhV{A:Ar}{K:KT}{F:FT}{M:MT}{ms ks rs:List AV}{n0:Int} :ZaG A tab B6 119 K F M (.run 10 (.tf (.run 15 (.tf (.run 21 (.fn)) (.run 4 (.tf (.run 21 (.fn)) (.run 9 (.hd)))))) (.run 9 (.tf (.run 20 (.fn)) (.run 9 (.tf (.run 20 (.fn)) (.run 13 (.hd)))))))) (Zfi ms ks rs n0) (Zei ms ks rs n0)=Zb2 A K F ms ks rs n0:=by kernel_rfl
def ZcY(A:Ar)(K:KT)(F:FT)(ms ks rs:List AV):Prop:=bB (A.lt 0 (A.int (A.lenA ks))) (rB [decide (List.length ((A.nthA ks (A.nat 0)).cellAt 0).toS≤1000000),Zae (Zae (A.le 0 0) (Nat.blt (A.nat 0) (A.lenA ks))) true] (bB (A.not (ZaR ((A.nthA ks (A.nat 0)).cellAt 0).toS)) (F (AV.tup [AV.agg (Row.gen [.int .i64 2, .int .i64 0]),AV.int .i64 4]) (none)) (rB [Zae (Zae (A.le 0 0) (Nat.blt (A.nat 0) (A.lenA ks))) true] (rB [A.inR .i64 (A.sub (A.int (A.lenA ms)) 1),Zae (Zae (A.le 0 0) (Nat.blt (A.nat 0) (A.lenA ks))) true,Zae (Nat.ble (A.lenA [AV.str ((A.nthA ks (A.nat 0)).cellAt 0).toS]) 4294967296) (Nat.blt 0 (A.lenA [AV.str ((A.nthA ks (A.nat 0)).cellAt 0).toS])),List.all [AV.str ((A.nthA ks (A.nat 0)).cellAt 0).toS] fun x=>AV.bx x&&Nat.beq (Zab A x) 1,Zae (Zae (A.le 0 0) (Nat.blt (A.nat 0) (A.lenA ks))) true] (bB (A.not (Zan ((A.nthA ks (A.nat 0)).cellAt 1).toI (-1) (A.sub (A.int (A.lenA ms)) 1))) (F (AV.tup [AV.agg (Row.gen [.int .i64 2, .int .i64 0]),AV.int .i64 6]) (none)) (rB [A.inR .i64 (A.add 0 1)] (K (Zhv (ms) (ks) (rs) (A.add 0 1) ([AV.str ((A.nthA ks (A.nat 0)).cellAt 0).toS]))))))))) (bB (A.lt 10 (A.int (A.lenA rs))) (F (AV.tup [AV.agg (Row.gen [.int .i64 3, .int .i64 0]),AV.int .i64 8]) (none)) (K (Zhw (ms) (ks) (rs))))
theorem Zhm{A:Ar}{K:KT}{F:FT}{M:MT}{ms ks rs:List AV} :ZaG A tab B6 119 K F M (.run 10 (.tf (.run 16 (.tf (.run 21 (.fn)) (.run 14 (.fy (.run 18 (.tf (.run 21 (.fn)) (.run 9 (.hd)))))))) (.run 9 (.tf (.run 20 (.fn)) (.run 13 (.hd)))))) (Zdu ms ks rs) (ZcX ms ks rs)=ZcY A K F ms ks rs:=by kernel_rfl
def ZcK(A:Ar)(K:KT)(F:FT)(ms ks rs:List AV)(n1:Int)(x2:List AV):Prop:=bB (A.lt n1 (A.int (A.lenA ks))) (rB [decide (List.length ((A.nthA ks (A.nat n1)).cellAt 0).toS≤1000000),Zae (Zae (A.le 0 n1) (Nat.blt (A.nat n1) (A.lenA ks))) true] (bB (A.not (ZaR ((A.nthA ks (A.nat n1)).cellAt 0).toS)) (F (AV.tup [AV.agg (Row.gen [.int .i64 2, .int .i64 n1]),AV.int .i64 4]) (none)) (rB [decide (List.length x2≤1000000),Zae (Zae (A.le 0 n1) (Nat.blt (A.nat n1) (A.lenA ks))) true] (bB (ZjP x2 ((A.nthA ks (A.nat n1)).cellAt 0).toS) (F (AV.tup [AV.agg (Row.gen [.int .i64 2, .int .i64 n1]),AV.int .i64 5]) (none)) (rB [A.inR .i64 (A.sub (A.int (A.lenA ms)) 1),Zae (Zae (A.le 0 n1) (Nat.blt (A.nat n1) (A.lenA ks))) true,Nat.ble (A.lenA x2+A.lenA [AV.str ((A.nthA ks (A.nat n1)).cellAt 0).toS]) 4294967296,List.all [AV.str ((A.nthA ks (A.nat n1)).cellAt 0).toS] fun x=>AV.bx x&&Nat.beq (Zab A x) 1,Zae (Zae (A.le 0 n1) (Nat.blt (A.nat n1) (A.lenA ks))) true] (bB (A.not (Zan ((A.nthA ks (A.nat n1)).cellAt 1).toI (-1) (A.sub (A.int (A.lenA ms)) 1))) (F (AV.tup [AV.agg (Row.gen [.int .i64 2, .int .i64 n1]),AV.int .i64 6]) (none)) (rB [A.inR .i64 (A.add n1 1)] (K (Zhv (ms) (ks) (rs) (A.add n1 1) (A.appA x2 [AV.str ((A.nthA ks (A.nat n1)).cellAt 0).toS])))))))))) (bB (A.lt 10 (A.int (A.lenA rs))) (F (AV.tup [AV.agg (Row.gen [.int .i64 3, .int .i64 0]),AV.int .i64 8]) (none)) (K (Zhw (ms) (ks) (rs))))
theorem ZhW{A:Ar}{K:KT}{F:FT}{M:MT}{ms ks rs:List AV}{n1:Int}{x2:List AV} :ZaG A tab B6 119 K F M (.run 10 (.tf (.run 16 (.tf (.run 21 (.fn)) (.run 14 (.tf (.run 21 (.fn)) (.run 18 (.tf (.run 21 (.fn)) (.run 9 (.hd)))))))) (.run 9 (.tf (.run 20 (.fn)) (.run 13 (.hd)))))) (Zfg ms ks rs n1 x2) (Zd5 ms ks rs n1 x2)=ZcK A K F ms ks rs n1 x2:=by kernel_rfl
def Zeq(A:Ar)(K:KT)(F:FT)(ms ks rs:List AV):Prop:=bB (A.lt 0 (A.int (A.lenA rs))) (rB [decide (List.length ((A.nthA rs (A.nat 0)).cellAt 0).toS≤1000000),Zae (Zae (A.le 0 0) (Nat.blt (A.nat 0) (A.lenA rs))) true] (bB (A.not (ZaR ((A.nthA rs (A.nat 0)).cellAt 0).toS)) (F (AV.tup [AV.agg (Row.gen [.int .i64 3, .int .i64 0]),AV.int .i64 4]) (none)) (rB [A.inR .i64 (A.sub (A.int (A.lenA ks)) 1),Zae (Nat.ble (A.lenA [AV.str ((A.nthA rs (A.nat 0)).cellAt 0).toS]) 4294967296) (Nat.blt 0 (A.lenA [AV.str ((A.nthA rs (A.nat 0)).cellAt 0).toS])),List.all [AV.str ((A.nthA rs (A.nat 0)).cellAt 0).toS] fun x=>AV.bx x&&Nat.beq (Zab A x) 1] (bB (A.not (Zan ((A.nthA rs (A.nat 0)).cellAt 1).toI 0 (A.sub (A.int (A.lenA ks)) 1))) (F (AV.tup [AV.agg (Row.gen [.int .i64 3, .int .i64 0]),AV.int .i64 6]) (none)) (rB [A.inR .i64 (A.sub (A.int (A.lenA ms)) 1)] (bB (A.not (Zan ((A.nthA rs (A.nat 0)).cellAt 2).toI (-1) (A.sub (A.int (A.lenA ms)) 1))) (F (AV.tup [AV.agg (Row.gen [.int .i64 3, .int .i64 0]),AV.int .i64 6]) (none)) (rB [A.inR .i64 (A.sub (A.int (A.lenA ks)) 1)] (bB (A.not (Zan ((A.nthA rs (A.nat 0)).cellAt 3).toI (-1) (A.sub (A.int (A.lenA ks)) 1))) (F (AV.tup [AV.agg (Row.gen [.int .i64 3, .int .i64 0]),AV.int .i64 6]) (none)) (bB (A.not (Zan ((A.nthA rs (A.nat 0)).cellAt 4).toI 1 1000000)) (F (AV.tup [AV.agg (Row.gen [.int .i64 3, .int .i64 0]),AV.int .i64 2]) (none)) (bB (A.eq ((A.nthA rs (A.nat 0)).cellAt 3).toI (-1)) (bB (A.not (A.eq ((A.nthA rs (A.nat 0)).cellAt 4).toI 1)) (F (AV.tup [AV.agg (Row.gen [.int .i64 3, .int .i64 0]),AV.int .i64 3]) (none)) (rB [A.inR .i64 (A.add 0 1)] (K (ZcZ (ms) (ks) (rs) (A.add 0 1) ([AV.str ((A.nthA rs (A.nat 0)).cellAt 0).toS]))))) (rB [A.inR .i64 (A.add 0 1)] (K (ZcZ (ms) (ks) (rs) (A.add 0 1) ([AV.str ((A.nthA rs (A.nat 0)).cellAt 0).toS])))))))))))))) (F (AV.tup [AV.agg (Row.gen [.int .i64 0, .int .i64 0]),AV.int .i64 0]) (none))
theorem ZhE{A:Ar}{K:KT}{F:FT}{M:MT}{ms ks rs:List AV} :ZaG A tab B6 119 K F M (.run 10 (.tf (.run 21 (.tf (.run 21 (.fn)) (.run 9 (.fy (.run 22 (.tf (.ty (.ty (.ty (.ty (.ty (.ty (.ty (.ty (.run 1 (.ty (.ty (.ty (.ty (.ty (.ty (.ty (.ty (.ty (.run 2 (.ty (.run 21 (.fn)))))))))))))))))))))) (.fy (.fy (.fy (.fy (.fy (.fy (.fy (.fy (.run 1 (.tf (.ty (.ty (.ty (.ty (.ty (.ty (.ty (.ty (.run 2 (.ty (.run 21 (.fn)))))))))))) (.fy (.fy (.fy (.fy (.fy (.fy (.fy (.fy (.run 2 (.tf (.run 21 (.fn)) (.run 9 (.tf (.run 21 (.fn)) (.run 7 (.tf (.ty (.ty (.ty (.run 2 (.tf (.run 21 (.fn)) (.run 9 (.hd))))))) (.fy (.fy (.fy (.run 2 (.fy (.run 9 (.hd))))))))))))))))))))))))))))))))))))) (.run 8 (.fn)))) (ZdC ms ks rs) (ZcV ms ks rs)=Zeq A K F ms ks rs:=by kernel_rfl
def Zef(A:Ar)(K:KT)(F:FT)(ms ks rs:List AV)(n3:Int)(x4:List AV):Prop:=bB (A.lt n3 (A.int (A.lenA rs))) (rB [decide (List.length ((A.nthA rs (A.nat n3)).cellAt 0).toS≤1000000),Zae (Zae (A.le 0 n3) (Nat.blt (A.nat n3) (A.lenA rs))) true] (bB (A.not (ZaR ((A.nthA rs (A.nat n3)).cellAt 0).toS)) (F (AV.tup [AV.agg (Row.gen [.int .i64 3, .int .i64 n3]),AV.int .i64 4]) (none)) (rB [decide (List.length x4≤1000000)] (bB (ZjP x4 ((A.nthA rs (A.nat n3)).cellAt 0).toS) (F (AV.tup [AV.agg (Row.gen [.int .i64 3, .int .i64 n3]),AV.int .i64 5]) (none)) (rB [A.inR .i64 (A.sub (A.int (A.lenA ks)) 1),Nat.ble (A.lenA x4+A.lenA [AV.str ((A.nthA rs (A.nat n3)).cellAt 0).toS]) 4294967296,List.all [AV.str ((A.nthA rs (A.nat n3)).cellAt 0).toS] fun x=>AV.bx x&&Nat.beq (Zab A x) 1] (bB (A.not (Zan ((A.nthA rs (A.nat n3)).cellAt 1).toI 0 (A.sub (A.int (A.lenA ks)) 1))) (F (AV.tup [AV.agg (Row.gen [.int .i64 3, .int .i64 n3]),AV.int .i64 6]) (none)) (rB [A.inR .i64 (A.sub (A.int (A.lenA ms)) 1)] (bB (A.not (Zan ((A.nthA rs (A.nat n3)).cellAt 2).toI (-1) (A.sub (A.int (A.lenA ms)) 1))) (F (AV.tup [AV.agg (Row.gen [.int .i64 3, .int .i64 n3]),AV.int .i64 6]) (none)) (rB [A.inR .i64 (A.sub (A.int (A.lenA ks)) 1)] (bB (A.not (Zan ((A.nthA rs (A.nat n3)).cellAt 3).toI (-1) (A.sub (A.int (A.lenA ks)) 1))) (F (AV.tup [AV.agg (Row.gen [.int .i64 3, .int .i64 n3]),AV.int .i64 6]) (none)) (bB (A.not (Zan ((A.nthA rs (A.nat n3)).cellAt 4).toI 1 1000000)) (F (AV.tup [AV.agg (Row.gen [.int .i64 3, .int .i64 n3]),AV.int .i64 2]) (none)) (bB (A.eq ((A.nthA rs (A.nat n3)).cellAt 3).toI (-1)) (bB (A.not (A.eq ((A.nthA rs (A.nat n3)).cellAt 4).toI 1)) (F (AV.tup [AV.agg (Row.gen [.int .i64 3, .int .i64 n3]),AV.int .i64 3]) (none)) (rB [A.inR .i64 (A.add n3 1)] (K (ZcZ (ms) (ks) (rs) (A.add n3 1) (A.appA x4 [AV.str ((A.nthA rs (A.nat n3)).cellAt 0).toS]))))) (rB [A.inR .i64 (A.add n3 1)] (K (ZcZ (ms) (ks) (rs) (A.add n3 1) (A.appA x4 [AV.str ((A.nthA rs (A.nat n3)).cellAt 0).toS])))))))))))))))) (F (AV.tup [AV.agg (Row.gen [.int .i64 0, .int .i64 0]),AV.int .i64 0]) (none))
theorem ZhS{A:Ar}{K:KT}{F:FT}{M:MT}{ms ks rs:List AV}{n3:Int}{x4:List AV} :ZaG A tab B6 119 K F M (.run 10 (.tf (.run 21 (.tf (.run 21 (.fn)) (.run 9 (.tf (.run 21 (.fn)) (.run 22 (.tf (.ty (.ty (.ty (.ty (.ty (.ty (.ty (.ty (.run 1 (.ty (.ty (.ty (.ty (.ty (.ty (.ty (.ty (.ty (.run 2 (.ty (.run 21 (.fn)))))))))))))))))))))) (.fy (.fy (.fy (.fy (.fy (.fy (.fy (.fy (.run 1 (.tf (.ty (.ty (.ty (.ty (.ty (.ty (.ty (.ty (.run 2 (.ty (.run 21 (.fn)))))))))))) (.fy (.fy (.fy (.fy (.fy (.fy (.fy (.fy (.run 2 (.tf (.run 21 (.fn)) (.run 9 (.tf (.run 21 (.fn)) (.run 7 (.tf (.ty (.ty (.ty (.run 2 (.tf (.run 21 (.fn)) (.run 9 (.hd))))))) (.fy (.fy (.fy (.run 2 (.fy (.run 9 (.hd))))))))))))))))))))))))))))))))))))) (.run 8 (.fn)))) (Zfn ms ks rs n3 x4) (ZdN ms ks rs n3 x4)=Zef A K F ms ks rs n3 x4:=by kernel_rfl
end Go.Proofs.YtkeoeooghhjibaaGreatDoor
