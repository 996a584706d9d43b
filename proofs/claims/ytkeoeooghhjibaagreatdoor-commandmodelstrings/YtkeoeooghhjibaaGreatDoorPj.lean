/- Paths of functions, printed by the explorer (Gx). No condition. -/
import Derived.Test.YtkeoeooghhjibaaGreatDoorCc
import Derived.KernelRfl
namespace Go.Proofs.YtkeoeooghhjibaaGreatDoor
set_option maxRecDepth 100000
set_option linter.unusedVariables false
def Zwm(ms ks rs:List AV)(i k:Int):AFrame:={ fn:=163,N:=16,env:=[(0,AV.int .i64 i),(1,AV.eptr (AV.fn 158 []) 0),(2,AV.eptr (AV.agg (Row.gen [.list (Row.big .str ms), .list (Row.big (.agg [.str, .int .i64]) ks), .list (Row.big (.agg [.str, .int .i64, .int .i64, .int .i64, .int .i64]) rs)])) 0),(3,AV.eptr (AV.int .i64 k) 0)],todo:=[.code a163.code],defs:=[],rnd:=none,ret:=false,res:=[ARes.tmp 5] }
def ZFE(ms ks rs:List AV)(i k:Int):List AFrame:=[(Zwm ms ks rs i k)]
theorem ZuV(ms ks rs:List AV)(i k:Int):ZaB tab 163 [AV.int .i64 i,AV.eptr (AV.fn 158 []) 0,AV.eptr (AV.agg (Row.gen [.list (Row.big .str ms), .list (Row.big (.agg [.str, .int .i64]) ks), .list (Row.big (.agg [.str, .int .i64, .int .i64, .int .i64, .int .i64]) rs)])) 0,AV.eptr (AV.int .i64 k) 0]=some (Zwm ms ks rs i k):=rfl
theorem ZDS(A:Ar)(ms ks rs:List AV)(i k:Int):Zbc A tab B2 8 [] 163 (ZFE ms ks rs i k) []=
 some (tr [3,3,5] [decide (-1000000≤k∧k≤1000000),Zae (Zae (A.le 0 i) (Nat.blt (A.nat i) (A.lenA ks))) true],
  AV.int .i64 (Zad (ZjO ((A.nthA ks (A.nat i)).cellAt 1).toI k) 6),none):=by kernel_rfl
def Zvz(ms ks rs:List AV)(i n m:Int):AFrame:={ fn:=165,N:=48,env:=[(0,AV.int .i64 i),(1,AV.eptr (AV.agg (Row.gen [.list (Row.big .str ms), .list (Row.big (.agg [.str, .int .i64]) ks), .list (Row.big (.agg [.str, .int .i64, .int .i64, .int .i64, .int .i64]) rs)])) 0),(2,AV.eptr (AV.int .i64 n) 0),(3,AV.eptr (AV.fn 158 []) 0),(4,AV.eptr (AV.int .i64 m) 0)],todo:=[.code a165.code],defs:=[],rnd:=none,ret:=false,res:=[ARes.tmp 6] }
def Zqh(ms ks rs:List AV)(i n m:Int):List AFrame:=[(Zvz ms ks rs i n m)]
theorem ZtF(ms ks rs:List AV)(i n m:Int):ZaB tab 165 [AV.int .i64 i,AV.eptr (AV.agg (Row.gen [.list (Row.big .str ms), .list (Row.big (.agg [.str, .int .i64]) ks), .list (Row.big (.agg [.str, .int .i64, .int .i64, .int .i64, .int .i64]) rs)])) 0,AV.eptr (AV.int .i64 n) 0,AV.eptr (AV.fn 158 []) 0,AV.eptr (AV.int .i64 m) 0]=some (Zvz ms ks rs i n m):=rfl
theorem ZEC(A:Ar)(ms ks rs:List AV)(i n m:Int):Zbc A tab B2 18 [true,true,true] 165 (Zqh ms ks rs i n m) []=
 some (tr [2,0,5,10,4,2,4,2,6,4] [decide (List.length [Zad (ZjO ((A.nthA rs (A.nat i)).cellAt 3).toI n) 6,Zad (Zan ((A.nthA rs (A.nat i)).cellAt 4).toI 1 1000000) 2,0]≤1000000),List.all [AV.int .i64 (Zad (ZjO ((A.nthA rs (A.nat i)).cellAt 3).toI n) 6),AV.int .i64 (Zad (Zan ((A.nthA rs (A.nat i)).cellAt 4).toI 1 1000000) 2),AV.int .i64 0] fun x=>AV.bx x&&Nat.beq (Zab A x) 1,A.not (A.eq ((A.nthA rs (A.nat i)).cellAt 3).toI (-1)),decide (-1000000≤n∧n≤1000000),ZjO ((A.nthA rs (A.nat i)).cellAt 2).toI m,decide (-1000000≤m∧m≤1000000),Zan ((A.nthA rs (A.nat i)).cellAt 1).toI 0 (A.sub n 1),A.inR .i64 (A.sub n 1),Zae (Zae (A.le 0 i) (Nat.blt (A.nat i) (A.lenA rs))) true],
  AV.int .i64 (Zao [Zad (ZjO ((A.nthA rs (A.nat i)).cellAt 3).toI n) 6,Zad (Zan ((A.nthA rs (A.nat i)).cellAt 4).toI 1 1000000) 2,0]),none):=by kernel_rfl
theorem ZAg(A:Ar)(ms ks rs:List AV)(i n m:Int):Zbc A tab B2 18 [true,true,false] 165 (Zqh ms ks rs i n m) []=
 some (tr [2,0,5,10,4,2,4,2,6,4] [decide (List.length [Zad (ZjO ((A.nthA rs (A.nat i)).cellAt 3).toI n) 6,Zad (Zan ((A.nthA rs (A.nat i)).cellAt 4).toI 1 1000000) 2,Zad (A.eq ((A.nthA rs (A.nat i)).cellAt 4).toI 1) 3]≤1000000),List.all [AV.int .i64 (Zad (ZjO ((A.nthA rs (A.nat i)).cellAt 3).toI n) 6),AV.int .i64 (Zad (Zan ((A.nthA rs (A.nat i)).cellAt 4).toI 1 1000000) 2),AV.int .i64 (Zad (A.eq ((A.nthA rs (A.nat i)).cellAt 4).toI 1) 3)] fun x=>AV.bx x&&Nat.beq (Zab A x) 1,!A.not (A.eq ((A.nthA rs (A.nat i)).cellAt 3).toI (-1)),decide (-1000000≤n∧n≤1000000),ZjO ((A.nthA rs (A.nat i)).cellAt 2).toI m,decide (-1000000≤m∧m≤1000000),Zan ((A.nthA rs (A.nat i)).cellAt 1).toI 0 (A.sub n 1),A.inR .i64 (A.sub n 1),Zae (Zae (A.le 0 i) (Nat.blt (A.nat i) (A.lenA rs))) true],
  AV.int .i64 (Zao [Zad (ZjO ((A.nthA rs (A.nat i)).cellAt 3).toI n) 6,Zad (Zan ((A.nthA rs (A.nat i)).cellAt 4).toI 1 1000000) 2,Zad (A.eq ((A.nthA rs (A.nat i)).cellAt 4).toI 1) 3]),none):=by kernel_rfl
theorem ZEF(A:Ar)(ms ks rs:List AV)(i n m:Int):Zbc A tab B2 18 [true,false,true] 165 (Zqh ms ks rs i n m) []=
 some (tr [2,0,5,15,2,4,2,6,4] [decide (List.length [6,Zad (Zan ((A.nthA rs (A.nat i)).cellAt 4).toI 1 1000000) 2,0]≤1000000),List.all [AV.int .i64 6,AV.int .i64 (Zad (Zan ((A.nthA rs (A.nat i)).cellAt 4).toI 1 1000000) 2),AV.int .i64 0] fun x=>AV.bx x&&Nat.beq (Zab A x) 1,A.not (A.eq ((A.nthA rs (A.nat i)).cellAt 3).toI (-1)),!ZjO ((A.nthA rs (A.nat i)).cellAt 2).toI m,decide (-1000000≤m∧m≤1000000),Zan ((A.nthA rs (A.nat i)).cellAt 1).toI 0 (A.sub n 1),A.inR .i64 (A.sub n 1),Zae (Zae (A.le 0 i) (Nat.blt (A.nat i) (A.lenA rs))) true],
  AV.int .i64 (Zao [6,Zad (Zan ((A.nthA rs (A.nat i)).cellAt 4).toI 1 1000000) 2,0]),none):=by kernel_rfl
theorem ZDe(A:Ar)(ms ks rs:List AV)(i n m:Int):Zbc A tab B2 18 [true,false,false] 165 (Zqh ms ks rs i n m) []=
 some (tr [2,0,5,15,2,4,2,6,4] [decide (List.length [6,Zad (Zan ((A.nthA rs (A.nat i)).cellAt 4).toI 1 1000000) 2,Zad (A.eq ((A.nthA rs (A.nat i)).cellAt 4).toI 1) 3]≤1000000),List.all [AV.int .i64 6,AV.int .i64 (Zad (Zan ((A.nthA rs (A.nat i)).cellAt 4).toI 1 1000000) 2),AV.int .i64 (Zad (A.eq ((A.nthA rs (A.nat i)).cellAt 4).toI 1) 3)] fun x=>AV.bx x&&Nat.beq (Zab A x) 1,!A.not (A.eq ((A.nthA rs (A.nat i)).cellAt 3).toI (-1)),!ZjO ((A.nthA rs (A.nat i)).cellAt 2).toI m,decide (-1000000≤m∧m≤1000000),Zan ((A.nthA rs (A.nat i)).cellAt 1).toI 0 (A.sub n 1),A.inR .i64 (A.sub n 1),Zae (Zae (A.le 0 i) (Nat.blt (A.nat i) (A.lenA rs))) true],
  AV.int .i64 (Zao [6,Zad (Zan ((A.nthA rs (A.nat i)).cellAt 4).toI 1 1000000) 2,Zad (A.eq ((A.nthA rs (A.nat i)).cellAt 4).toI 1) 3]),none):=by kernel_rfl
theorem ZBA(A:Ar)(ms ks rs:List AV)(i n m:Int):Zbc A tab B2 18 [false,false,true] 165 (Zqh ms ks rs i n m) []=
 some (tr [2,0,5,23,2,6,4] [decide (List.length [6,Zad (Zan ((A.nthA rs (A.nat i)).cellAt 4).toI 1 1000000) 2,0]≤1000000),List.all [AV.int .i64 6,AV.int .i64 (Zad (Zan ((A.nthA rs (A.nat i)).cellAt 4).toI 1 1000000) 2),AV.int .i64 0] fun x=>AV.bx x&&Nat.beq (Zab A x) 1,A.not (A.eq ((A.nthA rs (A.nat i)).cellAt 3).toI (-1)),!Zan ((A.nthA rs (A.nat i)).cellAt 1).toI 0 (A.sub n 1),A.inR .i64 (A.sub n 1),Zae (Zae (A.le 0 i) (Nat.blt (A.nat i) (A.lenA rs))) true],
  AV.int .i64 (Zao [6,Zad (Zan ((A.nthA rs (A.nat i)).cellAt 4).toI 1 1000000) 2,0]),none):=by kernel_rfl
theorem ZA1(A:Ar)(ms ks rs:List AV)(i n m:Int):Zbc A tab B2 18 [false,false,false] 165 (Zqh ms ks rs i n m) []=
 some (tr [2,0,5,23,2,6,4] [decide (List.length [6,Zad (Zan ((A.nthA rs (A.nat i)).cellAt 4).toI 1 1000000) 2,Zad (A.eq ((A.nthA rs (A.nat i)).cellAt 4).toI 1) 3]≤1000000),List.all [AV.int .i64 6,AV.int .i64 (Zad (Zan ((A.nthA rs (A.nat i)).cellAt 4).toI 1 1000000) 2),AV.int .i64 (Zad (A.eq ((A.nthA rs (A.nat i)).cellAt 4).toI 1) 3)] fun x=>AV.bx x&&Nat.beq (Zab A x) 1,!A.not (A.eq ((A.nthA rs (A.nat i)).cellAt 3).toI (-1)),!Zan ((A.nthA rs (A.nat i)).cellAt 1).toI 0 (A.sub n 1),A.inR .i64 (A.sub n 1),Zae (Zae (A.le 0 i) (Nat.blt (A.nat i) (A.lenA rs))) true],
  AV.int .i64 (Zao [6,Zad (Zan ((A.nthA rs (A.nat i)).cellAt 4).toI 1 1000000) 2,Zad (A.eq ((A.nthA rs (A.nat i)).cellAt 4).toI 1) 3]),none):=by kernel_rfl
def ZCH(ms ks rs:List AV):AFrame:={ fn:=25,N:=15,env:=[(0,AV.agg (Row.gen [.list (Row.big .str ms), .list (Row.big (.agg [.str, .int .i64]) ks), .list (Row.big (.agg [.str, .int .i64, .int .i64, .int .i64, .int .i64]) rs)]))],todo:=[.code a25.code],defs:=[],rnd:=none,ret:=false,res:=[ARes.cell 2 true 3] }
def ZL4(ms ks rs:List AV):List AFrame:=[(ZCH ms ks rs)]
theorem Zzu(ms ks rs:List AV):ZaB tab 25 [AV.agg (Row.gen [.list (Row.big .str ms), .list (Row.big (.agg [.str, .int .i64]) ks), .list (Row.big (.agg [.str, .int .i64, .int .i64, .int .i64, .int .i64]) rs)])]=some (ZCH ms ks rs):=rfl
theorem ZGW(A:Ar)(ms ks rs:List AV):Zbc A tab B2 9 [] 25 (ZL4 ms ks rs) []=
 some (tr [3,3,3,4] [Nat.ble (A.lenA rs) 4294967296,Nat.ble (A.lenA ks) 4294967296,decide (List.length ms≤1000000)],
  AV.agg (Row.gen [.list (Row.big .str ms), .list (Row.big (.agg [.str, .int .i64]) ks), .list (Row.big (.agg [.str, .int .i64, .int .i64, .int .i64, .int .i64]) rs)]),none):=by kernel_rfl
end Go.Proofs.YtkeoeooghhjibaaGreatDoor
/- Contracts as a list. No condition. -/
namespace Go.Proofs.YtkeoeooghhjibaaGreatDoor
def ZaR(xs:List AV)(i:Int)(j:Nat):Int:=((xs.getD i.toNat .top).cellAt j).toI
def Zc7(ks:List AV)(i k:Int):Int:=Zad (ZjO (ZaR ks i 1) k) 6
def ZbR(rs:List AV)(i n m:Int):Int:=Zao [Zad (Zan (ZaR rs i 1) 0 (n-1)&&ZjO (ZaR rs i 2) m&&ZjO (ZaR rs i 3) n) 6,Zad (Zan (ZaR rs i 4) 1 1000000) 2,Zad (decide (ZaR rs i 3≠ -1∨ZaR rs i 4=1)) 3]
theorem Zr6(ms ks rs:List AV)(i k:Int)(h:(0≤i∧i<ks.length)∧ -1000000≤k∧k≤1000000):Zat Tryz.prog 163 [.int .i64 i, .eptr (.fn 158 []) 0, .eptr (.agg (.gen [.list (.big .str ms), .list (.big (.agg [.str, .int .i64]) ks), .list (.big (.agg [.str, .int .i64, .int .i64, .int .i64, .int .i64]) rs)])) 0, .eptr (.int .i64 k) 0] (.int .i64 (Zc7 ks i k)) none:=
 start (ZuV ms ks rs i k) fun C hC=>fin hC Zll (ZDS std ms ks rs i k) (by simp;omega) rfl rfl
theorem Zrp(ms ks rs:List AV)(i n m:Int)(h:(0≤i∧i<rs.length)∧(-1000000≤n∧n≤1000000)∧ -1000000≤m∧m≤1000000):Zat Tryz.prog 165 [.int .i64 i, .eptr (.agg (.gen [.list (.big .str ms), .list (.big (.agg [.str, .int .i64]) ks), .list (.big (.agg [.str, .int .i64, .int .i64, .int .i64, .int .i64]) rs)])) 0, .eptr (.int .i64 n) 0, .eptr (.fn 158 []) 0, .eptr (.int .i64 m) 0] (.int .i64 (ZbR rs i n m)) none:=
 start (ZtF ms ks rs i n m) fun C hC=>by
  have hb:∀x y z:Int,([AV.int .i64 x,AV.int .i64 y,AV.int .i64 z].all fun x=>AV.bx x&&Nat.beq (Zab std x) 1)=true:=fun _ _ _=>rfl
  have e1:((rs.getD i.toNat .top).cellAt 1).toI=ZaR rs i 1:=rfl
  have e2:((rs.getD i.toNat .top).cellAt 2).toI=ZaR rs i 2:=rfl
  have e3:((rs.getD i.toNat .top).cellAt 3).toI=ZaR rs i 3:=rfl
  have e4:((rs.getD i.toNat .top).cellAt 4).toI=ZaR rs i 4:=rfl
  have hi:i.toNat<rs.length:=by omega
  by_cases h1:Zan (ZaR rs i 1) 0 (n-1)=true
  ·by_cases h2:ZjO (ZaR rs i 2) m=true
   ·by_cases h3:ZaR rs i 3= -1
    ·exact fin hC Zll (ZAg std ms ks rs i n m) (by simp only[hb];simp[-List.getD_eq_getElem?_getD,e1,e2,e3,e4,h1,h2,h3];omega) (by simp[-List.getD_eq_getElem?_getD,ZbR,e1,e2,e3,e4,h1,h2,h3]) rfl
    ·exact fin hC Zll (ZEC std ms ks rs i n m) (by simp only[hb];simp[-List.getD_eq_getElem?_getD,e1,e2,e3,e4,h1,h2,h3];omega) (by simp[-List.getD_eq_getElem?_getD,ZbR,e1,e2,e3,e4,h1,h2,h3,Zad]) rfl
   ·by_cases h3:ZaR rs i 3= -1
    ·exact fin hC Zll (ZDe std ms ks rs i n m) (by simp only[hb];simp[-List.getD_eq_getElem?_getD,e1,e2,e3,e4,h1,h2,h3];omega) (by simp[-List.getD_eq_getElem?_getD,ZbR,e1,e2,e3,e4,h1,h2,h3,Zad]) rfl
    ·exact fin hC Zll (ZEF std ms ks rs i n m) (by simp only[hb];simp[-List.getD_eq_getElem?_getD,e1,e2,e3,e4,h1,h2,h3];omega) (by simp[-List.getD_eq_getElem?_getD,ZbR,e1,e2,e3,e4,h1,h2,h3,Zad]) rfl
  ·by_cases h3:ZaR rs i 3= -1
   ·exact fin hC Zll (ZA1 std ms ks rs i n m) (by simp only[hb];simp[-List.getD_eq_getElem?_getD,e1,e2,e3,e4,h1,h3];omega) (by simp[-List.getD_eq_getElem?_getD,ZbR,e1,e2,e3,e4,h1,h3,Zad]) rfl
   ·exact fin hC Zll (ZBA std ms ks rs i n m) (by simp only[hb];simp[-List.getD_eq_getElem?_getD,e1,e2,e3,e4,h1,h3];omega) (by simp[-List.getD_eq_getElem?_getD,ZbR,e1,e2,e3,e4,h1,h3,Zad]) rfl
theorem ZuN(ms ks rs:List AV)(h:ms.length≤1000000∧ks.length≤1000000∧rs.length≤1000000):Zat Tryz.prog 25 [.agg (.gen [.list (.big .str ms), .list (.big (.agg [.str, .int .i64]) ks), .list (.big (.agg [.str, .int .i64, .int .i64, .int .i64, .int .i64]) rs)])] (.agg (.gen [.list (.big .str ms), .list (.big (.agg [.str, .int .i64]) ks), .list (.big (.agg [.str, .int .i64, .int .i64, .int .i64, .int .i64]) rs)])) none:=
 start (Zzu ms ks rs) fun C hC=>fin hC Zll (ZGW std ms ks rs) (by simp;omega) rfl rfl
def k163:Ctr:=⟨163,0,fun _ a=>match a with |[.int .i64 i, .eptr (.fn 158 []) 0, .eptr (.agg (.gen [.list (.big .str ms), .list (.big (.agg [.str, .int .i64]) ks), .list (.big (.agg [.str, .int .i64, .int .i64, .int .i64, .int .i64]) rs)])) 0, .eptr (.int .i64 k) 0]=>some (decide ((0≤i∧i<ks.length)∧ -1000000≤k∧k≤1000000), .int .i64 (Zc7 ks i k),none) |_=>none⟩
theorem Zzb:k163.OK Tryz.prog:=fun pa args r fr h=>by
 simp only[k163]at h
 split at h
 ·simp only[Option.some.injEq,Prod.mk.injEq,decide_eq_true_eq]at h
  obtain⟨h0,rfl,rfl⟩:=h
  exact Zr6 _ _ _ _ _ h0
 ·cases h
def k165:Ctr:=⟨165,0,fun _ a=>match a with |[.int .i64 i, .eptr (.agg (.gen [.list (.big .str ms), .list (.big (.agg [.str, .int .i64]) ks), .list (.big (.agg [.str, .int .i64, .int .i64, .int .i64, .int .i64]) rs)])) 0, .eptr (.int .i64 n) 0, .eptr (.fn 158 []) 0, .eptr (.int .i64 m) 0]=>some (decide ((0≤i∧i<rs.length)∧(-1000000≤n∧n≤1000000)∧ -1000000≤m∧m≤1000000), .int .i64 (ZbR rs i n m),none) |_=>none⟩
theorem Zxr:k165.OK Tryz.prog:=fun pa args r fr h=>by
 simp only[k165]at h
 split at h
 ·simp only[Option.some.injEq,Prod.mk.injEq,decide_eq_true_eq]at h
  obtain⟨h0,rfl,rfl⟩:=h
  exact Zrp _ _ _ _ _ _ h0
 ·cases h
def k25:Ctr:=⟨25,0,fun _ a=>match a with |[.agg (.gen [.list (.big .str ms), .list (.big (.agg [.str, .int .i64]) ks), .list (.big (.agg [.str, .int .i64, .int .i64, .int .i64, .int .i64]) rs)])]=>some (decide (ms.length≤1000000∧ks.length≤1000000∧rs.length≤1000000), .agg (.gen [.list (.big .str ms), .list (.big (.agg [.str, .int .i64]) ks), .list (.big (.agg [.str, .int .i64, .int .i64, .int .i64, .int .i64]) rs)]),none) |_=>none⟩
theorem ZAE:k25.OK Tryz.prog:=fun pa args r fr h=>by
 simp only[k25]at h
 split at h
 ·simp only[Option.some.injEq,Prod.mk.injEq,decide_eq_true_eq]at h
  obtain⟨h0,rfl,rfl⟩:=h
  exact ZuN _ _ _ h0
 ·cases h
def B3:List Ctr:=[k163,k165,k25]++B2
theorem ZbF:Zaw Tryz.prog B3:=⟨Zzb,⟨Zxr,⟨ZAE,Zll⟩⟩⟩
end Go.Proofs.YtkeoeooghhjibaaGreatDoor
/- Paths of functions, printed by the explorer (Gx). No condition. -/
namespace Go.Proofs.YtkeoeooghhjibaaGreatDoor
set_option maxRecDepth 100000
set_option linter.unusedVariables false
def Zsf(s:List UInt8):AFrame:={ fn:=151,N:=18,env:=[(0,AV.nils),(1,AV.str s)],todo:=[.code a151.code],defs:=[],rnd:=none,ret:=false,res:=[ARes.tmp 4] }
def ZAr(s:List UInt8):List AFrame:=[(Zsf s)]
theorem Zsq(s:List UInt8):ZaB tab 151 [AV.nils,AV.str s]=some (Zsf s):=rfl
def ZhU(s:List UInt8):List AFrame:=[{ fn:=151,N:=18,env:=[(0,AV.nils),(1,AV.str s),(5,AV.int .i64 0)],todo:=.code (ACode.gh [] ZrY)::Zv6,defs:=[],rnd:=none,ret:=false,res:=[ARes.tmp 4] }]
def Zf5(s:List UInt8):Zaa:=[]
abbrev ZlS(s:List UInt8):List AFrame×Zaa:=(ZhU s,Zf5 s)
theorem Zyd(A:Ar)(s:List UInt8):ZaH A tab B3 12 [] (ZAr s) []=
 some (tr [2] [],
  ZlS (s)):=by kernel_rfl
theorem Zzw(A:Ar)(s:List UInt8):Zbc A tab B3 16 [false] 151 (ZhU s) (Zf5 s)=
 some (tr [2,4] [!A.lt 0 (A.int 0)],
  AV.bool false,none):=by kernel_rfl
end Go.Proofs.YtkeoeooghhjibaaGreatDoor
/- Paths of functions, printed by the explorer (Gx). No condition. -/
namespace Go.Proofs.YtkeoeooghhjibaaGreatDoor
set_option maxRecDepth 100000
set_option linter.unusedVariables false
def ZDu(ms ks rs:List AV):AFrame:={ fn:=23,N:=66,env:=[(0,AV.agg (Row.gen [.list (Row.big .str ms), .list (Row.big (.agg [.str, .int .i64]) ks), .list (Row.big (.agg [.str, .int .i64, .int .i64, .int .i64, .int .i64]) rs)]))],todo:=[.code a23.code],defs:=[],rnd:=none,ret:=false,res:=[ARes.tmp 2] }
def ZE4(ms ks rs:List AV):List AFrame:=[(ZDu ms ks rs)]
theorem Zxx(ms ks rs:List AV):ZaB tab 23 [AV.agg (Row.gen [.list (Row.big .str ms), .list (Row.big (.agg [.str, .int .i64]) ks), .list (Row.big (.agg [.str, .int .i64, .int .i64, .int .i64, .int .i64]) rs)])]=some (ZDu ms ks rs):=rfl
def ZdO(ms ks rs:List AV)(n0:Int):List AFrame:=[{ fn:=23,N:=66,env:=[(1,AV.ptr 23002 0 0 0),(3,AV.int .i64 n0)],todo:=.code (ACode.gh [] ZBH)::ZGv,defs:=[],rnd:=none,ret:=false,res:=[ARes.tmp 2] }]
def Zdb(ms ks rs:List AV)(n0:Int):Zaa:=[(23002,{ base:=0,blks:=[Blk.row 26 3 (Row.gen [AV.agg (Row.gen [AV.list (Row.big .str ms),AV.list (Row.big (.agg [.str, .int .i64]) ks),AV.list (Row.big (.agg [.str, .int .i64, .int .i64, .int .i64, .int .i64]) rs)])])] })]
abbrev Zkb(ms ks rs:List AV)(n0:Int):List AFrame×Zaa:=(ZdO ms ks rs n0,Zdb ms ks rs n0)
def Zd2(ms ks rs:List AV)(n1:Int):List AFrame:=[{ fn:=23,N:=66,env:=[(1,AV.ptr 23002 0 0 0),(4,AV.int .i64 n1)],todo:=.code (ACode.gh [] ZET)::ZFm,defs:=[],rnd:=none,ret:=false,res:=[ARes.tmp 2] }]
def Zdk(ms ks rs:List AV)(n1:Int):Zaa:=[(23002,{ base:=0,blks:=[Blk.row 26 3 (Row.gen [AV.agg (Row.gen [AV.list (Row.big .str ms),AV.list (Row.big (.agg [.str, .int .i64]) ks),AV.list (Row.big (.agg [.str, .int .i64, .int .i64, .int .i64, .int .i64]) rs)])])] })]
abbrev ZkW(ms ks rs:List AV)(n1:Int):List AFrame×Zaa:=(Zd2 ms ks rs n1,Zdk ms ks rs n1)
def ZdZ(ms ks rs:List AV)(n2:Int):List AFrame:=[{ fn:=23,N:=66,env:=[(1,AV.ptr 23002 0 0 0),(5,AV.int .i64 n2)],todo:=.code (ACode.gh [] ZBL)::ZGO,defs:=[],rnd:=none,ret:=false,res:=[ARes.tmp 2] }]
def Zc9(ms ks rs:List AV)(n2:Int):Zaa:=[(23002,{ base:=0,blks:=[Blk.row 26 3 (Row.gen [AV.agg (Row.gen [AV.list (Row.big .str ms),AV.list (Row.big (.agg [.str, .int .i64]) ks),AV.list (Row.big (.agg [.str, .int .i64, .int .i64, .int .i64, .int .i64]) rs)])])] })]
abbrev Zj5(ms ks rs:List AV)(n2:Int):List AFrame×Zaa:=(ZdZ ms ks rs n2,Zc9 ms ks rs n2)
theorem ZGJ(A:Ar)(ms ks rs:List AV):Zbc A tab B3 32 [true,true,true,true,true,true,true,true,true,true,true] 23 (ZE4 ms ks rs) []=
 some (tr [23,7] [A.lt 8 (A.int (A.lenA ms))],
  AV.bool false,none):=by kernel_rfl
theorem ZHh(A:Ar)(ms ks rs:List AV):Zbc A tab B3 32 [false,false,false,false,false,true,true,true,true,true,true] 23 (ZE4 ms ks rs) []=
 some (tr [12,10,7] [A.lt 10 (A.int (A.lenA ks)),!A.lt 8 (A.int (A.lenA ms))],
  AV.bool false,none):=by kernel_rfl
theorem ZGd(A:Ar)(ms ks rs:List AV):Zbc A tab B3 32 [false,false,false,false,false,false,false,false,false,false,true] 23 (ZE4 ms ks rs) []=
 some (tr [2,9,10,7] [A.lt 12 (A.int (A.lenA rs)),!A.lt 10 (A.int (A.lenA ks)),!A.lt 8 (A.int (A.lenA ms))],
  AV.bool false,none):=by kernel_rfl
theorem ZGA(A:Ar)(ms ks rs:List AV):ZaH A tab B3 36 [false,false,false,false,false,false,false,false,false,false,false] (ZE4 ms ks rs) []=
 some (tr [1,9,10,7] [!A.lt 12 (A.int (A.lenA rs)),!A.lt 10 (A.int (A.lenA ks)),!A.lt 8 (A.int (A.lenA ms))],
  Zkb (ms) (ks) (rs) (0)):=by kernel_rfl
theorem ZGp(A:Ar)(ms ks rs:List AV)(n0:Int):Zbc A tab B3 31 [true,true] 23 (ZdO ms ks rs n0) (Zdb ms ks rs n0)=
 some (tr [2,3,3,5] [A.lt 20 (A.int (A.lenS (AV.toS (A.nthA ms (A.nat n0))))),Zae (Zae (A.le 0 n0) (Nat.blt (A.nat n0) (A.lenA ms))) true,A.lt n0 (A.int (A.lenA ms))],
  AV.bool false,none):=by kernel_rfl
theorem ZFC(A:Ar)(ms ks rs:List AV)(n0:Int):ZaH A tab B3 35 [true,false] (ZdO ms ks rs n0) (Zdb ms ks rs n0)=
 some (tr [1,1,3,3,5] [A.inR .i64 (A.add n0 1),!A.lt 20 (A.int (A.lenS (AV.toS (A.nthA ms (A.nat n0))))),Zae (Zae (A.le 0 n0) (Nat.blt (A.nat n0) (A.lenA ms))) true,A.lt n0 (A.int (A.lenA ms))],
  Zkb (ms) (ks) (rs) (A.add n0 1)):=by kernel_rfl
theorem ZF5(A:Ar)(ms ks rs:List AV)(n0:Int):ZaH A tab B3 20 [false] (ZdO ms ks rs n0) (Zdb ms ks rs n0)=
 some (tr [1,5] [!A.lt n0 (A.int (A.lenA ms))],
  ZkW (ms) (ks) (rs) (0)):=by kernel_rfl
theorem ZGx(A:Ar)(ms ks rs:List AV)(n1:Int):Zbc A tab B3 32 [true,true] 23 (Zd2 ms ks rs n1) (Zdk ms ks rs n1)=
 some (tr [2,4,3,5] [A.lt 20 (A.int (A.lenS ((A.nthA ks (A.nat n1)).cellAt 0).toS)),Zae (Zae (A.le 0 n1) (Nat.blt (A.nat n1) (A.lenA ks))) true,A.lt n1 (A.int (A.lenA ks))],
  AV.bool false,none):=by kernel_rfl
theorem ZGL(A:Ar)(ms ks rs:List AV)(n1:Int):ZaH A tab B3 36 [true,false] (Zd2 ms ks rs n1) (Zdk ms ks rs n1)=
 some (tr [1,1,4,3,5] [A.inR .i64 (A.add n1 1),!A.lt 20 (A.int (A.lenS ((A.nthA ks (A.nat n1)).cellAt 0).toS)),Zae (Zae (A.le 0 n1) (Nat.blt (A.nat n1) (A.lenA ks))) true,A.lt n1 (A.int (A.lenA ks))],
  ZkW (ms) (ks) (rs) (A.add n1 1)):=by kernel_rfl
theorem ZHb(A:Ar)(ms ks rs:List AV)(n1:Int):ZaH A tab B3 20 [false] (Zd2 ms ks rs n1) (Zdk ms ks rs n1)=
 some (tr [1,5] [!A.lt n1 (A.int (A.lenA ks))],
  Zj5 (ms) (ks) (rs) (0)):=by kernel_rfl
theorem ZBg(A:Ar)(ms ks rs:List AV)(n2:Int):Zbc A tab B3 32 [true,true] 23 (ZdZ ms ks rs n2) (Zc9 ms ks rs n2)=
 some (tr [2,4,3,5] [A.lt 20 (A.int (A.lenS ((A.nthA rs (A.nat n2)).cellAt 0).toS)),Zae (Zae (A.le 0 n2) (Nat.blt (A.nat n2) (A.lenA rs))) true,A.lt n2 (A.int (A.lenA rs))],
  AV.bool false,none):=by kernel_rfl
theorem ZDz(A:Ar)(ms ks rs:List AV)(n2:Int):ZaH A tab B3 36 [true,false] (ZdZ ms ks rs n2) (Zc9 ms ks rs n2)=
 some (tr [1,1,4,3,5] [A.inR .i64 (A.add n2 1),!A.lt 20 (A.int (A.lenS ((A.nthA rs (A.nat n2)).cellAt 0).toS)),Zae (Zae (A.le 0 n2) (Nat.blt (A.nat n2) (A.lenA rs))) true,A.lt n2 (A.int (A.lenA rs))],
  Zj5 (ms) (ks) (rs) (A.add n2 1)):=by kernel_rfl
theorem ZEV(A:Ar)(ms ks rs:List AV)(n2:Int):Zbc A tab B3 17 [false] 23 (ZdZ ms ks rs n2) (Zc9 ms ks rs n2)=
 some (tr [2,5] [!A.lt n2 (A.int (A.lenA rs))],
  AV.bool true,none):=by kernel_rfl
def ZvN(ms ks rs:List AV):AFrame:={ fn:=136,N:=31,env:=[(0,AV.agg (Row.gen [.list (Row.big .str ms), .list (Row.big (.agg [.str, .int .i64]) ks), .list (Row.big (.agg [.str, .int .i64, .int .i64, .int .i64, .int .i64]) rs)]))],todo:=[.code a136.code],defs:=[],rnd:=none,ret:=false,res:=[ARes.cell 2 true 2,ARes.tmp 3] }
def ZCP(ms ks rs:List AV):List AFrame:=[(ZvN ms ks rs)]
theorem Zuz(ms ks rs:List AV):ZaB tab 136 [AV.agg (Row.gen [.list (Row.big .str ms), .list (Row.big (.agg [.str, .int .i64]) ks), .list (Row.big (.agg [.str, .int .i64, .int .i64, .int .i64, .int .i64]) rs)])]=some (ZvN ms ks rs):=rfl
def ZbJ(ms ks rs:List AV)(n0 n1 n2 n3 n4:Int)(x5:List AV):List AFrame:=[{ fn:=159,N:=83,env:=[(0,AV.ptr 136005 0 0 0),(1,AV.int .i64 1),(5,AV.fn 160 [AV.ptr 136002 0 0 0]),(6,AV.fn 161 []),(15,AV.mp 159045 0),(45,AV.int .i64 n0),(46,AV.int .i64 n4)],todo:=.code (ACode.gh [] Zpn)::Zsv,defs:=[],rnd:=none,ret:=false,res:=[] },{ fn:=136,N:=31,env:=[(1,AV.ptr 136002 0 0 0),(2,AV.ptr 136003 0 0 0),(4,AV.ptr 136005 0 0 0),(5,AV.ptr 136006 0 0 0),(6,AV.ptr 136007 0 0 0),(7,AV.ptr 136008 0 0 0),(14,AV.int .i64 n1),(15,AV.fn 160 [AV.ptr 136002 0 0 0])],todo:=[AItem.inReg [oN 16 (OpK.icall 159 [Opd.t 4,cI 1,Opd.t 14,cI 1,cI 6,Opd.t 15,Opd.c (AV.fn 161 [])])], .code (ACode.seq (ACode.reg none [oN 17 (OpK.load false 1 (Opd.t 7)),oN 18 (OpK.mkfn 162 [Opd.t 1]),oN 19 (OpK.mkfn 163 [Opd.t 5,Opd.t 1,Opd.t 6]),oN 20 (OpK.icall 159 [Opd.t 4,cI 2,Opd.t 17,cI 1,cI 8,Opd.t 18,Opd.t 19])]) (ACode.seq (ACode.reg none [oN 21 (OpK.faddr 2 (Opd.t 1)),oN 22 (OpK.load false 1 (Opd.t 21)),oN 23 (OpK.len (Opd.t 22)),oN 24 (OpK.mkfn 164 [Opd.t 1]),oN 25 (OpK.mkfn 165 [Opd.t 1,Opd.t 7,Opd.t 5,Opd.t 6]),oN 26 (OpK.icall 159 [Opd.t 4,cI 3,Opd.t 23,cI 0,cI 10,Opd.t 24,Opd.t 25])]) (ACode.gh [Ghost.keep [2,4]] (ACode.seq (ACode.reg (some [(2,4),(3,4)]) [oN 27 (OpK.faddr 0 (Opd.t 4)),oN 28 (OpK.load true 2 (Opd.t 27)),oN 29 (OpK.faddr 2 (Opd.t 4)),oN 30 (OpK.load false 1 (Opd.t 29)),{ d:=none,g:=none,k:=OpK.store 2 (Opd.t 2) (Opd.t 28) },mV 3 30]) ACode.ret))))],defs:=[],rnd:=none,ret:=false,res:=[ARes.cell 2 true 2,ARes.tmp 3] }]
def ZbC(ms ks rs:List AV)(n0 n1 n2 n3 n4:Int)(x5:List AV):Zaa:=[(136002,{ base:=0,blks:=[Blk.row 26 3 (Row.gen [AV.agg (Row.gen [AV.list (Row.big .str ms),AV.list (Row.big (.agg [.str, .int .i64]) ks),AV.list (Row.big (.agg [.str, .int .i64, .int .i64, .int .i64, .int .i64]) rs)])])] }),(136003,{ base:=0,blks:=[Blk.row 195 2 (Row.gen [AV.agg (Row.gen [AV.int .i64 0,AV.int .i64 0])])] }),(136005,{ base:=0,blks:=[Blk.row 236 3 (Row.gen [AV.agg (Row.gen [AV.int .i64 0,AV.int .i64 0,AV.int .i64 0])])] }),(136006,{ base:=0,blks:=[Blk.row 237 1 (Row.gen [AV.fn 158 []])] }),(136007,{ base:=0,blks:=[Blk.row 3 1 (Row.gen [.int .i64 n2])] }),(136008,{ base:=0,blks:=[Blk.row 3 1 (Row.gen [.int .i64 n3])] }),(159045,{ base:=0,blks:=[Blk.mp x5] })]
abbrev Zhx(ms ks rs:List AV)(n0 n1 n2 n3 n4:Int)(x5:List AV):List AFrame×Zaa:=(ZbJ ms ks rs n0 n1 n2 n3 n4 x5,ZbC ms ks rs n0 n1 n2 n3 n4 x5)
def ZbS(ms ks rs:List AV)(n1 n2 n3 n6:Int)(x7:List AV):List AFrame:=[{ fn:=159,N:=83,env:=[(0,AV.ptr 136005 0 0 0),(1,AV.int .i64 2),(5,AV.fn 162 [AV.ptr 136002 0 0 0]),(6,AV.fn 163 [AV.ptr 136006 0 0 0,AV.ptr 136002 0 0 0,AV.ptr 136007 0 0 0]),(15,AV.mp 159045 0),(45,AV.int .i64 n3),(46,AV.int .i64 n6)],todo:=.code (ACode.gh [] Zpn)::Zsv,defs:=[],rnd:=none,ret:=false,res:=[] },{ fn:=136,N:=31,env:=[(1,AV.ptr 136002 0 0 0),(2,AV.ptr 136003 0 0 0),(4,AV.ptr 136005 0 0 0),(5,AV.ptr 136006 0 0 0),(6,AV.ptr 136007 0 0 0),(7,AV.ptr 136008 0 0 0),(14,AV.int .i64 n1),(15,AV.fn 160 [AV.ptr 136002 0 0 0]),(16,AV.tup []),(17,AV.int .i64 n3),(18,AV.fn 162 [AV.ptr 136002 0 0 0]),(19,AV.fn 163 [AV.ptr 136006 0 0 0,AV.ptr 136002 0 0 0,AV.ptr 136007 0 0 0])],todo:=[AItem.inReg [oN 20 (OpK.icall 159 [Opd.t 4,cI 2,Opd.t 17,cI 1,cI 8,Opd.t 18,Opd.t 19])], .code (ACode.seq (ACode.reg none [oN 21 (OpK.faddr 2 (Opd.t 1)),oN 22 (OpK.load false 1 (Opd.t 21)),oN 23 (OpK.len (Opd.t 22)),oN 24 (OpK.mkfn 164 [Opd.t 1]),oN 25 (OpK.mkfn 165 [Opd.t 1,Opd.t 7,Opd.t 5,Opd.t 6]),oN 26 (OpK.icall 159 [Opd.t 4,cI 3,Opd.t 23,cI 0,cI 10,Opd.t 24,Opd.t 25])]) (ACode.gh [Ghost.keep [2,4]] (ACode.seq (ACode.reg (some [(2,4),(3,4)]) [oN 27 (OpK.faddr 0 (Opd.t 4)),oN 28 (OpK.load true 2 (Opd.t 27)),oN 29 (OpK.faddr 2 (Opd.t 4)),oN 30 (OpK.load false 1 (Opd.t 29)),{ d:=none,g:=none,k:=OpK.store 2 (Opd.t 2) (Opd.t 28) },mV 3 30]) ACode.ret)))],defs:=[],rnd:=none,ret:=false,res:=[ARes.cell 2 true 2,ARes.tmp 3] }]
def Zby(ms ks rs:List AV)(n1 n2 n3 n6:Int)(x7:List AV):Zaa:=[(136002,{ base:=0,blks:=[Blk.row 26 3 (Row.gen [AV.agg (Row.gen [AV.list (Row.big .str ms),AV.list (Row.big (.agg [.str, .int .i64]) ks),AV.list (Row.big (.agg [.str, .int .i64, .int .i64, .int .i64, .int .i64]) rs)])])] }),(136003,{ base:=0,blks:=[Blk.row 195 2 (Row.gen [AV.agg (Row.gen [AV.int .i64 0,AV.int .i64 0])])] }),(136005,{ base:=0,blks:=[Blk.row 236 3 (Row.gen [AV.agg (Row.gen [AV.int .i64 0,AV.int .i64 0,AV.int .i64 0])])] }),(136006,{ base:=0,blks:=[Blk.row 237 1 (Row.gen [AV.fn 158 []])] }),(136007,{ base:=0,blks:=[Blk.row 3 1 (Row.gen [.int .i64 n2])] }),(136008,{ base:=0,blks:=[Blk.row 3 1 (Row.gen [.int .i64 n3])] }),(159045,{ base:=0,blks:=[Blk.mp x7] })]
abbrev ZhV(ms ks rs:List AV)(n1 n2 n3 n6:Int)(x7:List AV):List AFrame×Zaa:=(ZbS ms ks rs n1 n2 n3 n6 x7,Zby ms ks rs n1 n2 n3 n6 x7)
def Zcy(ms ks rs:List AV)(n1 n2 n3 n8 n9 n10:Int)(x11:List AV):List AFrame:=[{ fn:=159,N:=83,env:=[(0,AV.ptr 136005 0 0 0),(1,AV.int .i64 3),(5,AV.fn 164 [AV.ptr 136002 0 0 0]),(6,AV.fn 165 [AV.ptr 136002 0 0 0,AV.ptr 136008 0 0 0,AV.ptr 136006 0 0 0,AV.ptr 136007 0 0 0]),(15,AV.mp 159045 0),(45,AV.int .i64 n8),(46,AV.int .i64 n10)],todo:=.code (ACode.gh [] Zpn)::Zsv,defs:=[],rnd:=none,ret:=false,res:=[] },{ fn:=136,N:=31,env:=[(1,AV.ptr 136002 0 0 0),(2,AV.ptr 136003 0 0 0),(4,AV.ptr 136005 0 0 0),(5,AV.ptr 136006 0 0 0),(6,AV.ptr 136007 0 0 0),(7,AV.ptr 136008 0 0 0),(14,AV.int .i64 n1),(15,AV.fn 160 [AV.ptr 136002 0 0 0]),(16,AV.tup []),(17,AV.int .i64 n3),(18,AV.fn 162 [AV.ptr 136002 0 0 0]),(19,AV.fn 163 [AV.ptr 136006 0 0 0,AV.ptr 136002 0 0 0,AV.ptr 136007 0 0 0]),(20,AV.tup []),(21,AV.ptr 136002 0 0 2),(22,AV.list (Row.big (.agg [.str, .int .i64, .int .i64, .int .i64, .int .i64]) rs)),(23,AV.int .i64 n9),(24,AV.fn 164 [AV.ptr 136002 0 0 0]),(25,AV.fn 165 [AV.ptr 136002 0 0 0,AV.ptr 136008 0 0 0,AV.ptr 136006 0 0 0,AV.ptr 136007 0 0 0])],todo:=[AItem.inReg [oN 26 (OpK.icall 159 [Opd.t 4,cI 3,Opd.t 23,cI 0,cI 10,Opd.t 24,Opd.t 25])], .code (ACode.gh [Ghost.keep [2,4]] (ACode.seq (ACode.reg (some [(2,4),(3,4)]) [oN 27 (OpK.faddr 0 (Opd.t 4)),oN 28 (OpK.load true 2 (Opd.t 27)),oN 29 (OpK.faddr 2 (Opd.t 4)),oN 30 (OpK.load false 1 (Opd.t 29)),{ d:=none,g:=none,k:=OpK.store 2 (Opd.t 2) (Opd.t 28) },mV 3 30]) ACode.ret))],defs:=[],rnd:=none,ret:=false,res:=[ARes.cell 2 true 2,ARes.tmp 3] }]
def Zb2(ms ks rs:List AV)(n1 n2 n3 n8 n9 n10:Int)(x11:List AV):Zaa:=[(136002,{ base:=0,blks:=[Blk.row 26 3 (Row.gen [AV.agg (Row.gen [AV.list (Row.big .str ms),AV.list (Row.big (.agg [.str, .int .i64]) ks),AV.list (Row.big (.agg [.str, .int .i64, .int .i64, .int .i64, .int .i64]) rs)])])] }),(136003,{ base:=0,blks:=[Blk.row 195 2 (Row.gen [AV.agg (Row.gen [AV.int .i64 0,AV.int .i64 0])])] }),(136005,{ base:=0,blks:=[Blk.row 236 3 (Row.gen [AV.agg (Row.gen [AV.int .i64 0,AV.int .i64 0,AV.int .i64 0])])] }),(136006,{ base:=0,blks:=[Blk.row 237 1 (Row.gen [AV.fn 158 []])] }),(136007,{ base:=0,blks:=[Blk.row 3 1 (Row.gen [.int .i64 n2])] }),(136008,{ base:=0,blks:=[Blk.row 3 1 (Row.gen [.int .i64 n3])] }),(159045,{ base:=0,blks:=[Blk.mp x11] })]
abbrev Zht(ms ks rs:List AV)(n1 n2 n3 n8 n9 n10:Int)(x11:List AV):List AFrame×Zaa:=(Zcy ms ks rs n1 n2 n3 n8 n9 n10 x11,Zb2 ms ks rs n1 n2 n3 n8 n9 n10 x11)
theorem ZC6(A:Ar)(ms ks rs:List AV):Zbc A tab B3 118 [false,true,true,true] 136 (ZCP ms ks rs) []=
 some (tr [8,11,20,3,0,8,23] [A.not (A.eq (Zao [Zad (A.le 1 (A.int (A.lenA ms))) 10,Zad (A.le (A.int (A.lenA ms)) 6) 8]) 0),A.not (A.eq (Zao [Zad (A.le 1 (A.int (A.lenA ms))) 10,Zad (A.le (A.int (A.lenA ms)) 6) 8]) 0),A.not (A.eq (Zao [Zad (A.le 1 (A.int (A.lenA ms))) 10,Zad (A.le (A.int (A.lenA ms)) 6) 8]) 0),decide (List.length [Zad (A.le 1 (A.int (A.lenA ms))) 10,Zad (A.le (A.int (A.lenA ms)) 6) 8]≤1000000),List.all [AV.int .i64 (Zad (A.le 1 (A.int (A.lenA ms))) 10),AV.int .i64 (Zad (A.le (A.int (A.lenA ms)) 6) 8)] fun x=>AV.bx x&&Nat.beq (Zab A x) 1,!A.not (A.eq 0 0)],
  AV.tup [AV.agg (Row.gen [.int .i64 1, .int .i64 0]),AV.int .i64 (Zao [Zad (A.le 1 (A.int (A.lenA ms))) 10,Zad (A.le (A.int (A.lenA ms)) 6) 8])],none):=by kernel_rfl
theorem ZBv(A:Ar)(ms ks rs:List AV):ZaH A tab B3 70 [false,false] (ZCP ms ks rs) []=
 some (tr [4,3,0,8,23] [!A.not (A.eq (Zao [Zad (A.le 1 (A.int (A.lenA ms))) 10,Zad (A.le (A.int (A.lenA ms)) 6) 8]) 0),decide (List.length [Zad (A.le 1 (A.int (A.lenA ms))) 10,Zad (A.le (A.int (A.lenA ms)) 6) 8]≤1000000),List.all [AV.int .i64 (Zad (A.le 1 (A.int (A.lenA ms))) 10),AV.int .i64 (Zad (A.le (A.int (A.lenA ms)) 6) 8)] fun x=>AV.bx x&&Nat.beq (Zab A x) 1,!A.not (A.eq 0 0)],
  Zhx (ms) (ks) (rs) (A.int (A.lenA ms)) (A.int (A.lenA ms)) (A.int (A.lenA ms)) (A.int (A.lenA ks)) (0) ([])):=by kernel_rfl
theorem ZAd(A:Ar)(ms ks rs:List AV)(n0 n1 n2 n3 n4:Int)(x5:List AV):Zbc A tab B3 107 [true,true,true,true] 136 (ZbJ ms ks rs n0 n1 n2 n3 n4 x5) (ZbC ms ks rs n0 n1 n2 n3 n4 x5)=
 some (tr [8,11,21,3,0,6,4,0,4,1] [A.not (A.eq (Zao [Zad (ZaS (Za2 ms n4)) 4,Zad (A.not (A.hasS x5 (Za2 ms n4))) 5,0]) 0),A.not (A.eq (Zao [Zad (ZaS (Za2 ms n4)) 4,Zad (A.not (A.hasS x5 (Za2 ms n4))) 5,0]) 0),A.not (A.eq (Zao [Zad (ZaS (Za2 ms n4)) 4,Zad (A.not (A.hasS x5 (Za2 ms n4))) 5,0]) 0),decide (List.length [Zad (ZaS (Za2 ms n4)) 4,Zad (A.not (A.hasS x5 (Za2 ms n4))) 5,0]≤1000000),List.all [AV.int .i64 (Zad (ZaS (Za2 ms n4)) 4),AV.int .i64 (Zad (A.not (A.hasS x5 (Za2 ms n4))) 5),AV.int .i64 0] fun x=>AV.bx x&&Nat.beq (Zab A x) 1,decide (0≤n4∧n4< ↑(List.length ms)),decide (List.length (Za2 ms n4)≤1000000),decide (0≤n4∧n4< ↑(List.length ms)),A.lt n4 n0],
  AV.tup [AV.agg (Row.gen [.int .i64 1, .int .i64 n4]),AV.int .i64 (Zao [Zad (ZaS (Za2 ms n4)) 4,Zad (A.not (A.hasS x5 (Za2 ms n4))) 5,0])],none):=by kernel_rfl
theorem ZDq(A:Ar)(ms ks rs:List AV)(n0 n1 n2 n3 n4:Int)(x5:List AV):ZaH A tab B3 59 [true,false] (ZbJ ms ks rs n0 n1 n2 n3 n4 x5) (ZbC ms ks rs n0 n1 n2 n3 n4 x5)=
 some (tr [1,0,0,3,3,0,6,4,0,4,1] [A.inR .i64 (A.add n4 1),A.not (A.hasS x5 (Za2 ms n4)),decide (0≤n4∧n4< ↑(List.length ms)),!A.not (A.eq (Zao [Zad (ZaS (Za2 ms n4)) 4,Zad (A.not (A.hasS x5 (Za2 ms n4))) 5,0]) 0),decide (List.length [Zad (ZaS (Za2 ms n4)) 4,Zad (A.not (A.hasS x5 (Za2 ms n4))) 5,0]≤1000000),List.all [AV.int .i64 (Zad (ZaS (Za2 ms n4)) 4),AV.int .i64 (Zad (A.not (A.hasS x5 (Za2 ms n4))) 5),AV.int .i64 0] fun x=>AV.bx x&&Nat.beq (Zab A x) 1,decide (0≤n4∧n4< ↑(List.length ms)),decide (List.length (Za2 ms n4)≤1000000),decide (0≤n4∧n4< ↑(List.length ms)),A.lt n4 n0],
  Zhx (ms) (ks) (rs) (n0) (n1) (n2) (n3) (A.add n4 1) (A.appA x5 [AV.str (Za2 ms n4)])):=by kernel_rfl
theorem ZBi(A:Ar)(ms ks rs:List AV)(n0 n1 n2 n3 n4:Int)(x5:List AV):Zbc A tab B3 93 [false,false,true,true] 136 (ZbJ ms ks rs n0 n1 n2 n3 n4 x5) (ZbC ms ks rs n0 n1 n2 n3 n4 x5)=
 some (tr [8,22,3,0,8,9,1] [A.not (A.eq (Zao [Zad (A.le 1 n3) 10,Zad (A.le n3 8) 8]) 0),A.not (A.eq (Zao [Zad (A.le 1 n3) 10,Zad (A.le n3 8) 8]) 0),decide (List.length [Zad (A.le 1 n3) 10,Zad (A.le n3 8) 8]≤1000000),List.all [AV.int .i64 (Zad (A.le 1 n3) 10),AV.int .i64 (Zad (A.le n3 8) 8)] fun x=>AV.bx x&&Nat.beq (Zab A x) 1,!A.not (A.eq 0 0),!A.lt n4 n0],
  AV.tup [AV.agg (Row.gen [.int .i64 2, .int .i64 0]),AV.int .i64 (Zao [Zad (A.le 1 n3) 10,Zad (A.le n3 8) 8])],none):=by kernel_rfl
theorem ZCj(A:Ar)(ms ks rs:List AV)(n0 n1 n2 n3 n4:Int)(x5:List AV):ZaH A tab B3 64 [false,false,false] (ZbJ ms ks rs n0 n1 n2 n3 n4 x5) (ZbC ms ks rs n0 n1 n2 n3 n4 x5)=
 some (tr [4,3,0,8,9,1] [!A.not (A.eq (Zao [Zad (A.le 1 n3) 10,Zad (A.le n3 8) 8]) 0),decide (List.length [Zad (A.le 1 n3) 10,Zad (A.le n3 8) 8]≤1000000),List.all [AV.int .i64 (Zad (A.le 1 n3) 10),AV.int .i64 (Zad (A.le n3 8) 8)] fun x=>AV.bx x&&Nat.beq (Zab A x) 1,!A.not (A.eq 0 0),!A.lt n4 n0],
  ZhV (ms) (ks) (rs) (n1) (n2) (n3) (0) ([])):=by kernel_rfl
theorem ZEL(A:Ar)(ms ks rs:List AV)(n1 n2 n3 n6:Int)(x7:List AV):Zbc A tab B3 88 [true,true,true] 136 (ZbS ms ks rs n1 n2 n3 n6 x7) (Zby ms ks rs n1 n2 n3 n6 x7)=
 some (tr [8,23,3,0,0,5,4,0,4,1] [A.not (A.eq (Zao [Zad (ZaS (Zax ks n6)) 4,Zad (A.not (A.hasS x7 (Zax ks n6))) 5,Zc7 ks n6 n2]) 0),A.not (A.eq (Zao [Zad (ZaS (Zax ks n6)) 4,Zad (A.not (A.hasS x7 (Zax ks n6))) 5,Zc7 ks n6 n2]) 0),decide (List.length [Zad (ZaS (Zax ks n6)) 4,Zad (A.not (A.hasS x7 (Zax ks n6))) 5,Zc7 ks n6 n2]≤1000000),List.all [AV.int .i64 (Zad (ZaS (Zax ks n6)) 4),AV.int .i64 (Zad (A.not (A.hasS x7 (Zax ks n6))) 5),AV.int .i64 (Zc7 ks n6 n2)] fun x=>AV.bx x&&Nat.beq (Zab A x) 1,decide ((0≤n6∧n6< ↑(List.length ks))∧ -1000000≤n2∧n2≤1000000),decide (0≤n6∧n6< ↑(List.length ks)),decide (List.length (Zax ks n6)≤1000000),decide (0≤n6∧n6< ↑(List.length ks)),A.lt n6 n3],
  AV.tup [AV.agg (Row.gen [.int .i64 2, .int .i64 n6]),AV.int .i64 (Zao [Zad (ZaS (Zax ks n6)) 4,Zad (A.not (A.hasS x7 (Zax ks n6))) 5,Zc7 ks n6 n2])],none):=by kernel_rfl
theorem ZD2(A:Ar)(ms ks rs:List AV)(n1 n2 n3 n6:Int)(x7:List AV):ZaH A tab B3 59 [true,false] (ZbS ms ks rs n1 n2 n3 n6 x7) (Zby ms ks rs n1 n2 n3 n6 x7)=
 some (tr [1,0,0,3,3,0,0,5,4,0,4,1] [A.inR .i64 (A.add n6 1),A.not (A.hasS x7 (Zax ks n6)),decide (0≤n6∧n6< ↑(List.length ks)),!A.not (A.eq (Zao [Zad (ZaS (Zax ks n6)) 4,Zad (A.not (A.hasS x7 (Zax ks n6))) 5,Zc7 ks n6 n2]) 0),decide (List.length [Zad (ZaS (Zax ks n6)) 4,Zad (A.not (A.hasS x7 (Zax ks n6))) 5,Zc7 ks n6 n2]≤1000000),List.all [AV.int .i64 (Zad (ZaS (Zax ks n6)) 4),AV.int .i64 (Zad (A.not (A.hasS x7 (Zax ks n6))) 5),AV.int .i64 (Zc7 ks n6 n2)] fun x=>AV.bx x&&Nat.beq (Zab A x) 1,decide ((0≤n6∧n6< ↑(List.length ks))∧ -1000000≤n2∧n2≤1000000),decide (0≤n6∧n6< ↑(List.length ks)),decide (List.length (Zax ks n6)≤1000000),decide (0≤n6∧n6< ↑(List.length ks)),A.lt n6 n3],
  ZhV (ms) (ks) (rs) (n1) (n2) (n3) (A.add n6 1) (A.appA x7 [AV.str (Zax ks n6)])):=by kernel_rfl
theorem ZCw(A:Ar)(ms ks rs:List AV)(n1 n2 n3 n6:Int)(x7:List AV):Zbc A tab B3 74 [false,false,true] 136 (ZbS ms ks rs n1 n2 n3 n6 x7) (Zby ms ks rs n1 n2 n3 n6 x7)=
 some (tr [19,3,0,8,11,1] [A.not (A.eq (Zao [Zad (A.le 0 (A.int (A.lenA rs))) 10,Zad (A.le (A.int (A.lenA rs)) 10) 8]) 0),decide (List.length [Zad (A.le 0 (A.int (A.lenA rs))) 10,Zad (A.le (A.int (A.lenA rs)) 10) 8]≤1000000),List.all [AV.int .i64 (Zad (A.le 0 (A.int (A.lenA rs))) 10),AV.int .i64 (Zad (A.le (A.int (A.lenA rs)) 10) 8)] fun x=>AV.bx x&&Nat.beq (Zab A x) 1,!A.not (A.eq 0 0),!A.lt n6 n3],
  AV.tup [AV.agg (Row.gen [.int .i64 3, .int .i64 0]),AV.int .i64 (Zao [Zad (A.le 0 (A.int (A.lenA rs))) 10,Zad (A.le (A.int (A.lenA rs)) 10) 8])],none):=by kernel_rfl
theorem ZEJ(A:Ar)(ms ks rs:List AV)(n1 n2 n3 n6:Int)(x7:List AV):ZaH A tab B3 66 [false,false,false] (ZbS ms ks rs n1 n2 n3 n6 x7) (Zby ms ks rs n1 n2 n3 n6 x7)=
 some (tr [4,3,0,8,11,1] [!A.not (A.eq (Zao [Zad (A.le 0 (A.int (A.lenA rs))) 10,Zad (A.le (A.int (A.lenA rs)) 10) 8]) 0),decide (List.length [Zad (A.le 0 (A.int (A.lenA rs))) 10,Zad (A.le (A.int (A.lenA rs)) 10) 8]≤1000000),List.all [AV.int .i64 (Zad (A.le 0 (A.int (A.lenA rs))) 10),AV.int .i64 (Zad (A.le (A.int (A.lenA rs)) 10) 8)] fun x=>AV.bx x&&Nat.beq (Zab A x) 1,!A.not (A.eq 0 0),!A.lt n6 n3],
  Zht (ms) (ks) (rs) (n1) (n2) (n3) (A.int (A.lenA rs)) (A.int (A.lenA rs)) (0) ([])):=by kernel_rfl
theorem Zx1(A:Ar)(ms ks rs:List AV)(n1 n2 n3 n8 n9 n10:Int)(x11:List AV):Zbc A tab B3 67 [true,true] 136 (Zcy ms ks rs n1 n2 n3 n8 n9 n10 x11) (Zb2 ms ks rs n1 n2 n3 n8 n9 n10 x11)=
 some (tr [20,3,0,0,5,4,0,4,1] [A.not (A.eq (Zao [Zad (ZaS (Zax rs n10)) 4,Zad (A.not (A.hasS x11 (Zax rs n10))) 5,ZbR rs n10 n3 n2]) 0),decide (List.length [Zad (ZaS (Zax rs n10)) 4,Zad (A.not (A.hasS x11 (Zax rs n10))) 5,ZbR rs n10 n3 n2]≤1000000),List.all [AV.int .i64 (Zad (ZaS (Zax rs n10)) 4),AV.int .i64 (Zad (A.not (A.hasS x11 (Zax rs n10))) 5),AV.int .i64 (ZbR rs n10 n3 n2)] fun x=>AV.bx x&&Nat.beq (Zab A x) 1,decide ((0≤n10∧n10< ↑(List.length rs))∧(-1000000≤n3∧n3≤1000000)∧ -1000000≤n2∧n2≤1000000),decide (0≤n10∧n10< ↑(List.length rs)),decide (List.length (Zax rs n10)≤1000000),decide (0≤n10∧n10< ↑(List.length rs)),A.lt n10 n8],
  AV.tup [AV.agg (Row.gen [.int .i64 3, .int .i64 n10]),AV.int .i64 (Zao [Zad (ZaS (Zax rs n10)) 4,Zad (A.not (A.hasS x11 (Zax rs n10))) 5,ZbR rs n10 n3 n2])],none):=by kernel_rfl
theorem Zw4(A:Ar)(ms ks rs:List AV)(n1 n2 n3 n8 n9 n10:Int)(x11:List AV):ZaH A tab B3 59 [true,false] (Zcy ms ks rs n1 n2 n3 n8 n9 n10 x11) (Zb2 ms ks rs n1 n2 n3 n8 n9 n10 x11)=
 some (tr [1,0,0,3,3,0,0,5,4,0,4,1] [A.inR .i64 (A.add n10 1),A.not (A.hasS x11 (Zax rs n10)),decide (0≤n10∧n10< ↑(List.length rs)),!A.not (A.eq (Zao [Zad (ZaS (Zax rs n10)) 4,Zad (A.not (A.hasS x11 (Zax rs n10))) 5,ZbR rs n10 n3 n2]) 0),decide (List.length [Zad (ZaS (Zax rs n10)) 4,Zad (A.not (A.hasS x11 (Zax rs n10))) 5,ZbR rs n10 n3 n2]≤1000000),List.all [AV.int .i64 (Zad (ZaS (Zax rs n10)) 4),AV.int .i64 (Zad (A.not (A.hasS x11 (Zax rs n10))) 5),AV.int .i64 (ZbR rs n10 n3 n2)] fun x=>AV.bx x&&Nat.beq (Zab A x) 1,decide ((0≤n10∧n10< ↑(List.length rs))∧(-1000000≤n3∧n3≤1000000)∧ -1000000≤n2∧n2≤1000000),decide (0≤n10∧n10< ↑(List.length rs)),decide (List.length (Zax rs n10)≤1000000),decide (0≤n10∧n10< ↑(List.length rs)),A.lt n10 n8],
  Zht (ms) (ks) (rs) (n1) (n2) (n3) (n8) (n9) (A.add n10 1) (A.appA x11 [AV.str (Zax rs n10)])):=by kernel_rfl
theorem ZwJ(A:Ar)(ms ks rs:List AV)(n1 n2 n3 n8 n9 n10:Int)(x11:List AV):Zbc A tab B3 15 [false] 136 (Zcy ms ks rs n1 n2 n3 n8 n9 n10 x11) (Zb2 ms ks rs n1 n2 n3 n8 n9 n10 x11)=
 some (tr [8,1] [!A.lt n10 n8],
  AV.tup [AV.agg (Row.gen [.int .i64 0, .int .i64 0]),AV.int .i64 0],none):=by kernel_rfl
end Go.Proofs.YtkeoeooghhjibaaGreatDoor
/- CheckModel of the program. No condition. -/
namespace Go.Proofs.YtkeoeooghhjibaaGreatDoor
def Zbi(p i e:Int):AV:=.tup [.agg (.gen [.int .i64 p, .int .i64 i]), .int .i64 e]
def Zc4(nm:List UInt8)(ex:Int)(xs:List AV):Int:=Zao [Zad (ZaS nm) 4,Zad (!std.hasS xs nm) 5,ex]
def Zcu(a b:Bool):Int:=Zao [Zad a 10,Zad b 8]
def Zbm(nm:Nat→List UInt8)(ex:Nat→Int):Nat→Nat→List AV→Option (Nat×Int)
 |0,_,_=>none
 |m+1,k,xs=>if Zc4 (nm k) (ex k) xs=0 then Zbm nm ex m (k+1) (xs++[.str (nm k)])else some (k,Zc4 (nm k) (ex k) xs)
def ZbG(p:Int)(o:Option (Nat×Int))(d:AV):AV:=match o with |some (k,e)=>Zbi p k e |none=>d
def ZpT(ms ks rs:List AV):AV:=ZbG 3 (Zbm (fun k=>Zax rs k) (fun k=>ZbR rs k ks.length ms.length) rs.length 0 []) (Zbi 0 0 0)
def ZnW(ms ks rs:List AV):AV:=ZbG 2 (Zbm (fun k=>Zax ks k) (fun k=>Zc7 ks k ms.length) ks.length 0 []) (if Zcu (decide (0≤(rs.length:Int))) (decide ((rs.length:Int)≤10))=0 then ZpT ms ks rs else Zbi 3 0 (Zcu (decide (0≤(rs.length:Int))) (decide ((rs.length:Int)≤10))))
def Zrm(ms ks rs:List AV):AV:=ZbG 1 (Zbm (fun k=>Za2 ms k) (fun _=>0) ms.length 0 []) (if Zcu (decide (1≤(ks.length:Int))) (decide ((ks.length:Int)≤8))=0 then ZnW ms ks rs else Zbi 2 0 (Zcu (decide (1≤(ks.length:Int))) (decide ((ks.length:Int)≤8))))
def Zd6(ms ks rs:List AV):AV:=if Zcu (decide (1≤(ms.length:Int))) (decide ((ms.length:Int)≤6))=0 then Zrm ms ks rs else Zbi 1 0 (Zcu (decide (1≤(ms.length:Int))) (decide ((ms.length:Int)≤6)))
def ZaI(ms ks rs:List AV):Bool:=(ms.all fun x=>decide (x.toS.length≤1000000))&&(ks.all fun x=>decide ((x.cellAt 0).toS.length≤1000000))&&(rs.all fun x=>decide ((x.cellAt 0).toS.length≤1000000))&&decide (ms.length≤1000000∧ks.length≤1000000∧rs.length≤1000000)
theorem Zsc{xs:List AV}{k:Nat}(h:k<xs.length):xs.getD k .top∈xs:=by
 rw[List.getD_eq_getElem?_getD,List.getElem?_eq_getElem h];exact List.getElem_mem h
theorem Zcj{ks:List AV}(h:(ks.all fun x=>decide ((x.cellAt 0).toS.length≤1000000))=true){k:Nat}(hk:k<ks.length):(Zax ks k).length≤1000000:=by
 have:=List.all_eq_true.1 h _ (Zsc hk)
 simpa[Zax]using this
theorem Zk2{ks:List AV}(h:(ks.all fun x=>decide (x.toS.length≤1000000))=true){k:Nat}(hk:k<ks.length):(Za2 ks k).length≤1000000:=by
 have:=List.all_eq_true.1 h _ (Zsc hk)
 simpa[Za2]using this
theorem ZvS{a b c:Int}(h:Zao [a,b,c]=0):a=0∧b=0∧c=0:=by
 simp only[Zao]at h
 by_cases h1:a=0
 ·by_cases h2:b=0
  ·by_cases h3:c=0
   ·exact⟨h1,h2,h3⟩
   ·simp[h1,h2,h3]at h
  ·simp[h1,h2]at h
 ·simp[h1]at h
theorem ZlF{nm:List UInt8}{ex:Int}{xs:List AV}(h:Zc4 nm ex xs=0):std.hasS xs nm=false:=by
 have:=(ZvS h).2.1
 unfold Zad at this
 split at this
 ·rename_i e;simpa using e
 ·cases this
theorem bx3(x y z:Int):([AV.int .i64 x,AV.int .i64 y,AV.int .i64 z].all fun x=>AV.bx x&&Nat.beq (Zab std x) 1)=true:=rfl
theorem bx2(x y:Int):([AV.int .i64 x,AV.int .i64 y].all fun x=>AV.bx x&&Nat.beq (Zab std x) 1)=true:=rfl
section
variable {C:Ctx}(hC:C.P=Tryz.prog)(ms ks rs:List AV)(hs:ZaI ms ks rs=true)
include hC hs
theorem ZES(n1:Int):∀(m k:Nat) (xs:List AV),k+m=rs.length→Ev C (Zcy ms ks rs n1 ms.length ks.length rs.length rs.length k xs) (Zb2 ms ks rs n1 ms.length ks.length rs.length rs.length k xs)
 (ZbH 136 (ZbG 3 (Zbm (fun k=>Zax rs k) (fun k=>ZbR rs k ks.length ms.length) m k xs) (Zbi 0 0 0)) none)
 |0,k,xs,hk=>fin hC ZbF (ZwJ std ms ks rs n1 ms.length ks.length rs.length rs.length k xs) (by simp;omega) rfl rfl
 |m+1,k,xs,hk=>by
  simp only[ZaI,Bool.and_eq_true,decide_eq_true_eq]at hs
  have hn:=Zcj hs.1.2 (show k<rs.length by omega)
  by_cases h:Zc4 (Zax rs k) (ZbR rs k ks.length ms.length) xs=0
  ·have hnew:=ZlF h
   have h':=h
   unfold Zc4 at h'
   refine go hC ZbF (Zw4 std ms ks rs n1 ms.length ks.length rs.length rs.length k xs) (by simp only[bx3];simp[-Zex,hnew,hn];simp[-Zex,hnew]at h';simp[h'];omega) ?_
   have:=ZES n1 m (k+1) (xs++[.str (Zax rs k)]) (by omega)
   rw[Zbm,if_pos h]
   exact this
  ·have h':=h
   unfold Zc4 at h'
   rw[Zbm,if_neg h]
   exact fin hC ZbF (Zx1 std ms ks rs n1 ms.length ks.length rs.length rs.length k xs) (by simp only[bx3];simp[-Zex,hn,h'];omega) rfl rfl
theorem ZAn(n1:Int):∀(m k:Nat) (xs:List AV),k+m=ks.length→Ev C (ZbS ms ks rs n1 ms.length ks.length k xs) (Zby ms ks rs n1 ms.length ks.length k xs)
 (ZbH 136 (ZbG 2 (Zbm (fun k=>Zax ks k) (fun k=>Zc7 ks k ms.length) m k xs) (if Zcu (decide (0≤(rs.length:Int))) (decide ((rs.length:Int)≤10))=0 then ZpT ms ks rs else Zbi 3 0 (Zcu (decide (0≤(rs.length:Int))) (decide ((rs.length:Int)≤10))))) none)
 |0,k,xs,hk=>by
  by_cases h:Zcu (decide (0≤(rs.length:Int))) (decide ((rs.length:Int)≤10))=0
  ·have h':=h
   unfold Zcu at h'
   rw[if_pos h]
   refine go hC ZbF (ZEJ std ms ks rs n1 ms.length ks.length k xs) (by simp only[bx2,Zz9,ZqL,ZkD,h'];simp;omega) ?_
   exact ZES hC ms ks rs hs n1 rs.length 0 [] (by omega)
  ·have h':=h
   unfold Zcu at h'
   rw[if_neg h]
   exact fin hC ZbF (ZCw std ms ks rs n1 ms.length ks.length k xs) (by simp only[bx2,ZFj,Zz9,ZqL,ZkD,h'];simp;omega) rfl rfl
 |m+1,k,xs,hk=>by
  have hs':=hs
  simp only[ZaI,Bool.and_eq_true,decide_eq_true_eq]at hs'
  have hn:=Zcj hs'.1.1.2 (show k<ks.length by omega)
  by_cases h:Zc4 (Zax ks k) (Zc7 ks k ms.length) xs=0
  ·have hnew:=ZlF h
   have h':=h
   unfold Zc4 at h'
   refine go hC ZbF (ZD2 std ms ks rs n1 ms.length ks.length k xs) (by simp only[bx3];simp[-Zex,hnew,hn];simp[-Zex,hnew]at h';simp[h'];omega) ?_
   have:=ZAn n1 m (k+1) (xs++[.str (Zax ks k)]) (by omega)
   rw[Zbm,if_pos h]
   exact this
  ·have h':=h
   unfold Zc4 at h'
   rw[Zbm,if_neg h]
   exact fin hC ZbF (ZEL std ms ks rs n1 ms.length ks.length k xs) (by simp only[bx3];simp[-Zex,hn,h'];omega) rfl rfl
theorem ZDM(n1:Int):∀(m k:Nat) (xs:List AV),k+m=ms.length→Ev C (ZbJ ms ks rs ms.length n1 ms.length ks.length k xs) (ZbC ms ks rs ms.length n1 ms.length ks.length k xs)
 (ZbH 136 (ZbG 1 (Zbm (fun k=>Za2 ms k) (fun _=>0) m k xs) (if Zcu (decide (1≤(ks.length:Int))) (decide ((ks.length:Int)≤8))=0 then ZnW ms ks rs else Zbi 2 0 (Zcu (decide (1≤(ks.length:Int))) (decide ((ks.length:Int)≤8))))) none)
 |0,k,xs,hk=>by
  by_cases h:Zcu (decide (1≤(ks.length:Int))) (decide ((ks.length:Int)≤8))=0
  ·have h':=h
   unfold Zcu at h'
   rw[if_pos h]
   refine go hC ZbF (ZCj std ms ks rs ms.length n1 ms.length ks.length k xs) (by simp only[bx2,Zz9,ZqL,ZkD,h'];simp;omega) ?_
   exact ZAn hC ms ks rs hs n1 ks.length 0 [] (by omega)
  ·have h':=h
   unfold Zcu at h'
   rw[if_neg h]
   exact fin hC ZbF (ZBi std ms ks rs ms.length n1 ms.length ks.length k xs) (by simp only[bx2,ZFj,Zz9,ZqL,ZkD,h'];simp;omega) rfl rfl
 |m+1,k,xs,hk=>by
  have hs':=hs
  simp only[ZaI,Bool.and_eq_true,decide_eq_true_eq]at hs'
  have hn:=Zk2 hs'.1.1.1 (show k<ms.length by omega)
  by_cases h:Zc4 (Za2 ms k) 0 xs=0
  ·have hnew:=ZlF h
   have h':=h
   unfold Zc4 at h'
   refine go hC ZbF (ZDq std ms ks rs ms.length n1 ms.length ks.length k xs) (by simp only[bx3];simp[-Zex,hnew,hn];simp[-Zex,hnew]at h';simp[h'];omega) ?_
   have:=ZDM n1 m (k+1) (xs++[.str (Za2 ms k)]) (by omega)
   rw[Zbm,if_pos h]
   exact this
  ·have h':=h
   unfold Zc4 at h'
   rw[Zbm,if_neg h]
   exact fin hC ZbF (ZAd std ms ks rs ms.length n1 ms.length ks.length k xs) (by simp only[bx3];simp[-Zex,hn,h'];omega) rfl rfl
end
theorem Zry(ms ks rs:List AV)(hs:ZaI ms ks rs=true):Zat Tryz.prog 136 [.agg (.gen [.list (.big .str ms), .list (.big (.agg [.str, .int .i64]) ks), .list (.big (.agg [.str, .int .i64, .int .i64, .int .i64, .int .i64]) rs)])] (Zd6 ms ks rs) none:=
 start (Zuz ms ks rs) fun C hC=>by
  by_cases h:Zcu (decide (1≤(ms.length:Int))) (decide ((ms.length:Int)≤6))=0
  ·have h':=h
   unfold Zcu at h'
   rw[Zd6,if_pos h]
   refine go hC ZbF (ZBv std ms ks rs) (by simp only[bx2,Zz9,ZqL,ZkD,h'];simp) ?_
   exact ZDM hC ms ks rs hs ms.length ms.length 0 [] (by omega)
  ·have h':=h
   unfold Zcu at h'
   rw[Zd6,if_neg h]
   exact fin hC ZbF (ZC6 std ms ks rs) (by simp only[bx2,ZFj,Zz9,ZqL,ZkD,h'];simp) rfl rfl
end Go.Proofs.YtkeoeooghhjibaaGreatDoor
/- Contracts as a list. No condition. -/
namespace Go.Proofs.YtkeoeooghhjibaaGreatDoor
theorem ZsZ(s:List UInt8):Zat Tryz.prog 151 [.nils, .str s] (.bool false) none:=
 start (Zsq s) fun C hC=>go hC ZbF (Zyd std s) (by simp) (fin hC ZbF (Zzw std s) (by simp) rfl rfl)
def mP:AV→Int
 | .tup [.agg (.gen [.int _ p,_]),_]=>p
 |_=>0
def mI:AV→Int
 | .tup [.agg (.gen [_, .int _ i]),_]=>i
 |_=>0
def mE:AV→Int
 | .tup [_, .int _ e]=>e
 |_=>0
def isM(v:AV):Prop:=∃p i e,v=Zbi p i e
theorem isM.eq{v:AV}(h:isM v):v=Zbi (mP v) (mI v) (mE v):=by
 obtain⟨p,i,e,rfl⟩:=h
 rfl
theorem isM.scan{p:Int}{o:Option (Nat×Int)}{d:AV}(h:isM d):isM (ZbG p o d):=by
 unfold ZbG
 split
 ·exact⟨_,_,_,rfl⟩
 ·exact h
theorem isM.ite{c:Prop}[Decidable c]{a b:AV}(ha:isM a)(hb:isM b):isM (if c then a else b):=by
 split
 ·exact ha
 ·exact hb
theorem Zig(p i e:Int):isM (Zbi p i e):=⟨_,_,_,rfl⟩
theorem Zna(ms ks rs:List AV):isM (Zd6 ms ks rs):=
 .ite (.scan (.ite (.scan (.ite (.scan (Zig _ _ _)) (Zig _ _ _))) (Zig _ _ _))) (Zig _ _ _)
def Zmf(ms ks rs:List AV):Int:=mP (Zd6 ms ks rs)
def Zmg(ms ks rs:List AV):Int:=mI (Zd6 ms ks rs)
def Zaj(ms ks rs:List AV):Int:=mE (Zd6 ms ks rs)
theorem Zqa(ms ks rs:List AV)(hs:ZaI ms ks rs=true):Zat Tryz.prog 136 [.agg (.gen [.list (.big .str ms), .list (.big (.agg [.str, .int .i64]) ks), .list (.big (.agg [.str, .int .i64, .int .i64, .int .i64, .int .i64]) rs)])] (.tup [.agg (.gen [.int .i64 (Zmf ms ks rs), .int .i64 (Zmg ms ks rs)]), .int .i64 (Zaj ms ks rs)]) none:=by
 have:=Zry ms ks rs hs
 rw[(Zna ms ks rs).eq]at this
 exact this
def k151n:Ctr:=⟨151,0,fun _ a=>match a with |[.nils, .str _]=>some (true, .bool false,none) |_=>none⟩
theorem ZtZ:k151n.OK Tryz.prog:=fun pa args r fr h=>by
 simp only[k151n]at h
 split at h
 ·cases h
  exact ZsZ _
 ·cases h
def k136:Ctr:=⟨136,0,fun _ a=>match a with |[.agg (.gen [.list (.big .str ms), .list (.big (.agg [.str, .int .i64]) ks), .list (.big (.agg [.str, .int .i64, .int .i64, .int .i64, .int .i64]) rs)])]=>some (decide (ZaI ms ks rs=true), .tup [.agg (.gen [.int .i64 (Zmf ms ks rs), .int .i64 (Zmg ms ks rs)]), .int .i64 (Zaj ms ks rs)],none) |_=>none⟩
theorem ZzL:k136.OK Tryz.prog:=fun pa args r fr h=>by
 simp only[k136]at h
 split at h
 ·simp only[Option.some.injEq,Prod.mk.injEq,decide_eq_true_eq]at h
  obtain⟨h0,rfl,rfl⟩:=h
  exact Zqa _ _ _ h0
 ·cases h
def B4:List Ctr:=[k151n,k136]++B3
theorem ZA6:Zaw Tryz.prog B4:=⟨ZtZ,⟨ZzL,ZbF⟩⟩
end Go.Proofs.YtkeoeooghhjibaaGreatDoor
/- Paths of functions, printed by the explorer (Gx). No condition. -/
namespace Go.Proofs.YtkeoeooghhjibaaGreatDoor
set_option maxRecDepth 100000
set_option linter.unusedVariables false
def ZCp(ms ks rs:List AV):AFrame:={ fn:=88,N:=11,env:=[(0,AV.agg (Row.gen [.list (Row.big .str ms), .list (Row.big (.agg [.str, .int .i64]) ks), .list (Row.big (.agg [.str, .int .i64, .int .i64, .int .i64, .int .i64]) rs)]))],todo:=[.code a88.code],defs:=[],rnd:=none,ret:=false,res:=[ARes.tmp 2] }
def ZJ2(ms ks rs:List AV):List AFrame:=[(ZCp ms ks rs)]
theorem ZzZ(ms ks rs:List AV):ZaB tab 88 [AV.agg (Row.gen [.list (Row.big .str ms), .list (Row.big (.agg [.str, .int .i64]) ks), .list (Row.big (.agg [.str, .int .i64, .int .i64, .int .i64, .int .i64]) rs)])]=some (ZCp ms ks rs):=rfl
theorem ZFU(A:Ar)(ms ks rs:List AV):Zbc A tab B4 23 [] 88 (ZJ2 ms ks rs) []=
 some (tr [9,3] [decide (ZaI ms ks rs=true)],
  AV.int .i64 (Zaj ms ks rs),none):=by kernel_rfl
end Go.Proofs.YtkeoeooghhjibaaGreatDoor
/- Contracts as a list. No condition. -/
namespace Go.Proofs.YtkeoeooghhjibaaGreatDoor
theorem ZpF(ms ks rs:List AV)(h:ZaI ms ks rs=true):Zat Tryz.prog 88 [.agg (.gen [.list (.big .str ms), .list (.big (.agg [.str, .int .i64]) ks), .list (.big (.agg [.str, .int .i64, .int .i64, .int .i64, .int .i64]) rs)])] (.int .i64 (Zaj ms ks rs)) none:=
 start (ZzZ ms ks rs) fun C hC=>fin hC ZA6 (ZFU std ms ks rs) (by simp[h]) rfl rfl
def k88:Ctr:=⟨88,0,fun _ a=>match a with |[.agg (.gen [.list (.big .str ms), .list (.big (.agg [.str, .int .i64]) ks), .list (.big (.agg [.str, .int .i64, .int .i64, .int .i64, .int .i64]) rs)])]=>some (decide (ZaI ms ks rs=true), .int .i64 (Zaj ms ks rs),none) |_=>none⟩
theorem ZDB:k88.OK Tryz.prog:=fun pa args r fr h=>by
 simp only[k88]at h
 split at h
 ·simp only[Option.some.injEq,Prod.mk.injEq,decide_eq_true_eq]at h
  obtain⟨h0,rfl,rfl⟩:=h
  exact ZpF _ _ _ h0
 ·cases h
def B5:List Ctr:=[k88]++B4
theorem ZGj:Zaw Tryz.prog B5:=⟨ZDB,ZA6⟩
end Go.Proofs.YtkeoeooghhjibaaGreatDoor
/- CheckFile of the program. No condition. -/
namespace Go.Proofs.YtkeoeooghhjibaaGreatDoor
def ZBt(i e:Int):AV:=.tup [.int .i64 i, .int .i64 e]
end Go.Proofs.YtkeoeooghhjibaaGreatDoor
/- Few. No condition. -/
namespace Go.Proofs.YtkeoeooghhjibaaGreatDoor
def ZD7(x:AV):Bool:=decide (x.toS.length≤20)
def Zrb(x:AV):Bool:=decide ((x.cellAt 0).toS.length≤20)
def Ztk(ms ks rs:List AV):Bool:=decide (ms.length≤8∧ks.length≤10∧rs.length≤12)&&(ms.all ZD7&&(ks.all Zrb&&rs.all Zrb))
theorem Zno{xs:List AV}{k:Nat}(h:k<xs.length):xs.drop k=xs.getD k .top::xs.drop (k+1):=by
 rw[List.drop_eq_getElem_cons h,List.getD_eq_getElem?_getD,List.getElem?_eq_getElem h];rfl
section
variable {C:Ctx}(hC:C.P=Tryz.prog)(ms ks rs:List AV)(hl:ms.length≤8∧ks.length≤10∧rs.length≤12)
include hC hl
theorem ZAi:∀(m k:Nat),k+m=rs.length→Ev C (ZdZ ms ks rs k) (Zc9 ms ks rs k) (ZbH 23 (.bool ((rs.drop k).all Zrb)) none)
 |0,k,h=>fin hC ZbF (ZEV std ms ks rs k) (by simp;omega) (by rw[List.drop_of_length_le (by omega)];rfl) rfl
 |m+1,k,h=>by
  rw[Zno (show k<rs.length by omega)]
  by_cases h1:((rs.getD k .top).cellAt 0).toS.length≤20
  ·refine go hC ZbF (ZDz std ms ks rs k) (by simp[-List.getD_eq_getElem?_getD];omega) ?_
   rw[List.all_cons,show Zrb (rs.getD k .top)=true from decide_eq_true h1,Bool.true_and]
   exact ZAi m (k+1) (by omega)
  ·exact fin hC ZbF (ZBg std ms ks rs k) (by simp[-List.getD_eq_getElem?_getD];omega) (by rw[List.all_cons,show Zrb (rs.getD k .top)=false from decide_eq_false h1,Bool.false_and]) rfl
theorem ZBM:∀(m k:Nat),k+m=ks.length→Ev C (Zd2 ms ks rs k) (Zdk ms ks rs k) (ZbH 23 (.bool ((ks.drop k).all Zrb&&rs.all Zrb)) none)
 |0,k,h=>by
  refine go hC ZbF (ZHb std ms ks rs k) (by simp;omega) ?_
  rw[List.drop_of_length_le (by omega)]
  exact ZAi hC ms ks rs hl rs.length 0 (by omega)
 |m+1,k,h=>by
  rw[Zno (show k<ks.length by omega)]
  by_cases h1:((ks.getD k .top).cellAt 0).toS.length≤20
  ·refine go hC ZbF (ZGL std ms ks rs k) (by simp[-List.getD_eq_getElem?_getD];omega) ?_
   rw[List.all_cons,show Zrb (ks.getD k .top)=true from decide_eq_true h1,Bool.true_and]
   exact ZBM m (k+1) (by omega)
  ·exact fin hC ZbF (ZGx std ms ks rs k) (by simp[-List.getD_eq_getElem?_getD];omega) (by rw[List.all_cons,show Zrb (ks.getD k .top)=false from decide_eq_false h1,Bool.false_and,Bool.false_and]) rfl
theorem ZCi:∀(m k:Nat),k+m=ms.length→Ev C (ZdO ms ks rs k) (Zdb ms ks rs k) (ZbH 23 (.bool ((ms.drop k).all ZD7&&(ks.all Zrb&&rs.all Zrb))) none)
 |0,k,h=>by
  refine go hC ZbF (ZF5 std ms ks rs k) (by simp;omega) ?_
  rw[List.drop_of_length_le (by omega)]
  exact ZBM hC ms ks rs hl ks.length 0 (by omega)
 |m+1,k,h=>by
  rw[Zno (show k<ms.length by omega)]
  by_cases h1:(ms.getD k .top).toS.length≤20
  ·refine go hC ZbF (ZFC std ms ks rs k) (by simp[-List.getD_eq_getElem?_getD];omega) ?_
   rw[List.all_cons,show ZD7 (ms.getD k .top)=true from decide_eq_true h1,Bool.true_and]
   exact ZCi m (k+1) (by omega)
  ·exact fin hC ZbF (ZGp std ms ks rs k) (by simp[-List.getD_eq_getElem?_getD];omega) (by rw[List.all_cons,show ZD7 (ms.getD k .top)=false from decide_eq_false h1,Bool.false_and,Bool.false_and]) rfl
end
theorem Zx7(ms ks rs:List AV):Zat Tryz.prog 23 [.agg (.gen [.list (.big .str ms), .list (.big (.agg [.str, .int .i64]) ks), .list (.big (.agg [.str, .int .i64, .int .i64, .int .i64, .int .i64]) rs)])] (.bool (Ztk ms ks rs)) none:=
 start (Zxx ms ks rs) fun C hC=>by
  by_cases h1:ms.length≤8
  ·by_cases h2:ks.length≤10
   ·by_cases h3:rs.length≤12
    ·refine go hC ZbF (ZGA std ms ks rs) (by simp;omega) ?_
     unfold Ztk
     rw[decide_eq_true ⟨h1,h2,h3⟩,Bool.true_and]
     exact ZCi hC ms ks rs ⟨h1,h2,h3⟩ ms.length 0 (by omega)
    ·exact fin hC ZbF (ZGd std ms ks rs) (by simp;omega) (by simp[Ztk,h3]) rfl
   ·exact fin hC ZbF (ZHh std ms ks rs) (by simp;omega) (by simp[Ztk,h2]) rfl
  ·exact fin hC ZbF (ZGJ std ms ks rs) (by simp;omega) (by simp[Ztk,h1]) rfl
end Go.Proofs.YtkeoeooghhjibaaGreatDoor
/- Contracts as a list. No condition. -/
namespace Go.Proofs.YtkeoeooghhjibaaGreatDoor
def k23:Ctr:=⟨23,0,fun _ a=>match a with |[.agg (.gen [.list (.big .str ms), .list (.big (.agg [.str, .int .i64]) ks), .list (.big (.agg [.str, .int .i64, .int .i64, .int .i64, .int .i64]) rs)])]=>some (true, .bool (Ztk ms ks rs),none) |_=>none⟩
theorem ZCe:k23.OK Tryz.prog:=fun pa args r fr h=>by
 simp only[k23]at h
 split at h
 ·cases h
  exact Zx7 _ _ _
 ·cases h
def B6:List Ctr:=[k23]++B5
theorem Zh5:Zaw Tryz.prog B6:=⟨ZCe,ZGj⟩
end Go.Proofs.YtkeoeooghhjibaaGreatDoor
/- Paths of functions, printed by the explorer (Gx). No condition. -/
namespace Go.Proofs.YtkeoeooghhjibaaGreatDoor
set_option maxRecDepth 100000
set_option linter.unusedVariables false
def Zvp(ms ks rs:List AV):AFrame:={ fn:=119,N:=188,env:=[(0,AV.agg (Row.gen [.list (Row.big .str ms), .list (Row.big (.agg [.str, .int .i64]) ks), .list (Row.big (.agg [.str, .int .i64, .int .i64, .int .i64, .int .i64]) rs)]))],todo:=[.code a119.code],defs:=[],rnd:=none,ret:=false,res:=[ARes.cell 2 true 2,ARes.tmp 3] }
def ZGc(ms ks rs:List AV):List AFrame:=[(Zvp ms ks rs)]
theorem ZtL(ms ks rs:List AV):ZaB tab 119 [AV.agg (Row.gen [.list (Row.big .str ms), .list (Row.big (.agg [.str, .int .i64]) ks), .list (Row.big (.agg [.str, .int .i64, .int .i64, .int .i64, .int .i64]) rs)])]=some (Zvp ms ks rs):=rfl
def Zff(ms ks rs:List AV)(n0:Int):List AFrame:=[{ fn:=119,N:=188,env:=[(1,AV.ptr 119002 0 0 0),(2,AV.ptr 119003 0 0 0),(4,AV.int .i64 n0)],todo:=.code (ACode.gh [] Zvw)::ZA2,defs:=[],rnd:=none,ret:=false,res:=[ARes.cell 2 true 2,ARes.tmp 3] }]
def Zeg(ms ks rs:List AV)(n0:Int):Zaa:=[(119002,{ base:=0,blks:=[Blk.row 26 3 (Row.gen [AV.agg (Row.gen [AV.list (Row.big .str ms),AV.list (Row.big (.agg [.str, .int .i64]) ks),AV.list (Row.big (.agg [.str, .int .i64, .int .i64, .int .i64, .int .i64]) rs)])])] }),(119003,{ base:=0,blks:=[Blk.row 195 2 (Row.gen [AV.agg (Row.gen [AV.int .i64 0,AV.int .i64 0])])] })]
abbrev Zhu(ms ks rs:List AV)(n0:Int):List AFrame×Zaa:=(Zff ms ks rs n0,Zeg ms ks rs n0)
def ZdB(ms ks rs:List AV):List AFrame:=[{ fn:=119,N:=188,env:=[(1,AV.ptr 119002 0 0 0),(2,AV.ptr 119003 0 0 0),(5,AV.nils),(6,AV.int .i64 0)],todo:=.code (ACode.gh [] ZrF)::Zvj,defs:=[],rnd:=none,ret:=false,res:=[ARes.cell 2 true 2,ARes.tmp 3] }]
def ZcH(ms ks rs:List AV):Zaa:=[(119002,{ base:=0,blks:=[Blk.row 26 3 (Row.gen [AV.agg (Row.gen [AV.list (Row.big .str ms),AV.list (Row.big (.agg [.str, .int .i64]) ks),AV.list (Row.big (.agg [.str, .int .i64, .int .i64, .int .i64, .int .i64]) rs)])])] }),(119003,{ base:=0,blks:=[Blk.row 195 2 (Row.gen [AV.agg (Row.gen [AV.int .i64 0,AV.int .i64 0])])] })]
abbrev ZmV(ms ks rs:List AV):List AFrame×Zaa:=(ZdB ms ks rs,ZcH ms ks rs)
def Ze9(ms ks rs:List AV)(n1:Int)(x2:List AV):List AFrame:=[{ fn:=119,N:=188,env:=[(1,AV.ptr 119002 0 0 0),(2,AV.ptr 119003 0 0 0),(5,AV.row 119093 0),(6,AV.int .i64 n1)],todo:=.code (ACode.gh [] ZrF)::Zvj,defs:=[],rnd:=none,ret:=false,res:=[ARes.cell 2 true 2,ARes.tmp 3] }]
def ZdT(ms ks rs:List AV)(n1:Int)(x2:List AV):Zaa:=[(119002,{ base:=0,blks:=[Blk.row 26 3 (Row.gen [AV.agg (Row.gen [AV.list (Row.big .str ms),AV.list (Row.big (.agg [.str, .int .i64]) ks),AV.list (Row.big (.agg [.str, .int .i64, .int .i64, .int .i64, .int .i64]) rs)])])] }),(119003,{ base:=0,blks:=[Blk.row 195 2 (Row.gen [AV.agg (Row.gen [AV.int .i64 0,AV.int .i64 0])])] }),(119093,{ base:=0,blks:=[Blk.row 9 1 (Row.big .str x2)] })]
abbrev ZhH(ms ks rs:List AV)(n1:Int)(x2:List AV):List AFrame×Zaa:=(Ze9 ms ks rs n1 x2,ZdT ms ks rs n1 x2)
def ZdA(ms ks rs:List AV):List AFrame:=[{ fn:=119,N:=188,env:=[(1,AV.ptr 119002 0 0 0),(2,AV.ptr 119003 0 0 0),(5,AV.nils),(7,AV.int .i64 0)],todo:=.code (ACode.gh [] Zss)::ZvV,defs:=[],rnd:=none,ret:=false,res:=[ARes.cell 2 true 2,ARes.tmp 3] }]
def ZcI(ms ks rs:List AV):Zaa:=[(119002,{ base:=0,blks:=[Blk.row 26 3 (Row.gen [AV.agg (Row.gen [AV.list (Row.big .str ms),AV.list (Row.big (.agg [.str, .int .i64]) ks),AV.list (Row.big (.agg [.str, .int .i64, .int .i64, .int .i64, .int .i64]) rs)])])] }),(119003,{ base:=0,blks:=[Blk.row 195 2 (Row.gen [AV.agg (Row.gen [AV.int .i64 0,AV.int .i64 0])])] })]
abbrev ZhZ(ms ks rs:List AV):List AFrame×Zaa:=(ZdA ms ks rs,ZcI ms ks rs)
def ZfE(ms ks rs:List AV)(n3:Int)(x4:List AV):List AFrame:=[{ fn:=119,N:=188,env:=[(1,AV.ptr 119002 0 0 0),(2,AV.ptr 119003 0 0 0),(5,AV.row 119141 0),(7,AV.int .i64 n3)],todo:=.code (ACode.gh [] Zss)::ZvV,defs:=[],rnd:=none,ret:=false,res:=[ARes.cell 2 true 2,ARes.tmp 3] }]
def Zev(ms ks rs:List AV)(n3:Int)(x4:List AV):Zaa:=[(119002,{ base:=0,blks:=[Blk.row 26 3 (Row.gen [AV.agg (Row.gen [AV.list (Row.big .str ms),AV.list (Row.big (.agg [.str, .int .i64]) ks),AV.list (Row.big (.agg [.str, .int .i64, .int .i64, .int .i64, .int .i64]) rs)])])] }),(119003,{ base:=0,blks:=[Blk.row 195 2 (Row.gen [AV.agg (Row.gen [AV.int .i64 0,AV.int .i64 0])])] }),(119141,{ base:=0,blks:=[Blk.row 9 1 (Row.big .str x4)] })]
abbrev ZcV(ms ks rs:List AV)(n3:Int)(x4:List AV):List AFrame×Zaa:=(ZfE ms ks rs n3 x4,Zev ms ks rs n3 x4)
def Zpz(A:Ar)(K:KT)(F:FT)(ms ks rs:List AV):Prop:=bB (A.eq (A.int (A.lenA ms)) 0) (F (AV.tup [AV.agg (Row.gen [.int .i64 1, .int .i64 0]),AV.int .i64 10]) (none)) (bB (A.lt 6 (A.int (A.lenA ms))) (F (AV.tup [AV.agg (Row.gen [.int .i64 1, .int .i64 0]),AV.int .i64 8]) (none)) (K (Zhu (ms) (ks) (rs) (0))))
theorem ZCf{A:Ar}{K:KT}{F:FT}{M:MT}{ms ks rs:List AV} :ZaG A tab B6 119 K F M (.run 14 (.tf (.run 20 (.fn)) (.run 9 (.tf (.run 20 (.fn)) (.run 9 (.hd)))))) (ZGc ms ks rs) []=Zpz A K F ms ks rs:=by kernel_rfl
def ZbV(A:Ar)(K:KT)(F:FT)(ms ks rs:List AV)(n0:Int):Prop:=bB (A.lt n0 (A.int (A.lenA ms))) (rB [decide (List.length (AV.toS (A.nthA ms (A.nat n0)))≤1000000),Zae (Zae (A.le 0 n0) (Nat.blt (A.nat n0) (A.lenA ms))) true] (bB (A.not (ZaS (AV.toS (A.nthA ms (A.nat n0))))) (F (AV.tup [AV.agg (Row.gen [.int .i64 1, .int .i64 n0]),AV.int .i64 4]) (none)) (rB [decide (List.length (A.subA ms 0 (A.nat n0-0))≤1000000),Zae (Zae (A.le 0 n0) (Nat.blt (A.nat n0) (A.lenA ms))) true,Zae (A.le 0 n0) (Zae (Zae (Nat.ble 0 (A.nat n0)) (Nat.ble (A.nat n0) (A.lenA ms))) true)] (bB (ZjP (A.subA ms 0 (A.nat n0-0)) (AV.toS (A.nthA ms (A.nat n0)))) (F (AV.tup [AV.agg (Row.gen [.int .i64 1, .int .i64 n0]),AV.int .i64 5]) (none)) (rB [A.inR .i64 (A.add n0 1)] (K (Zhu (ms) (ks) (rs) (A.add n0 1)))))))) (bB (A.eq (A.int (A.lenA ks)) 0) (F (AV.tup [AV.agg (Row.gen [.int .i64 2, .int .i64 0]),AV.int .i64 10]) (none)) (bB (A.lt 8 (A.int (A.lenA ks))) (F (AV.tup [AV.agg (Row.gen [.int .i64 2, .int .i64 0]),AV.int .i64 8]) (none)) (K (ZmV (ms) (ks) (rs)))))
theorem Zhr{A:Ar}{K:KT}{F:FT}{M:MT}{ms ks rs:List AV}{n0:Int} :ZaG A tab B6 119 K F M (.run 10 (.tf (.run 15 (.tf (.run 21 (.fn)) (.run 4 (.tf (.run 21 (.fn)) (.run 9 (.hd)))))) (.run 9 (.tf (.run 20 (.fn)) (.run 9 (.tf (.run 20 (.fn)) (.run 13 (.hd)))))))) (Zff ms ks rs n0) (Zeg ms ks rs n0)=ZbV A K F ms ks rs n0:=by kernel_rfl
def ZcU(A:Ar)(K:KT)(F:FT)(ms ks rs:List AV):Prop:=bB (A.lt 0 (A.int (A.lenA ks))) (rB [decide (List.length ((A.nthA ks (A.nat 0)).cellAt 0).toS≤1000000),Zae (Zae (A.le 0 0) (Nat.blt (A.nat 0) (A.lenA ks))) true] (bB (A.not (ZaS ((A.nthA ks (A.nat 0)).cellAt 0).toS)) (F (AV.tup [AV.agg (Row.gen [.int .i64 2, .int .i64 0]),AV.int .i64 4]) (none)) (rB [Zae (Zae (A.le 0 0) (Nat.blt (A.nat 0) (A.lenA ks))) true] (rB [A.inR .i64 (A.sub (A.int (A.lenA ms)) 1),Zae (Zae (A.le 0 0) (Nat.blt (A.nat 0) (A.lenA ks))) true,Zae (Nat.ble (A.lenA [AV.str ((A.nthA ks (A.nat 0)).cellAt 0).toS]) 4294967296) (Nat.blt 0 (A.lenA [AV.str ((A.nthA ks (A.nat 0)).cellAt 0).toS])),List.all [AV.str ((A.nthA ks (A.nat 0)).cellAt 0).toS] fun x=>AV.bx x&&Nat.beq (Zab A x) 1,Zae (Zae (A.le 0 0) (Nat.blt (A.nat 0) (A.lenA ks))) true] (bB (A.not (Zan ((A.nthA ks (A.nat 0)).cellAt 1).toI (-1) (A.sub (A.int (A.lenA ms)) 1))) (F (AV.tup [AV.agg (Row.gen [.int .i64 2, .int .i64 0]),AV.int .i64 6]) (none)) (rB [A.inR .i64 (A.add 0 1)] (K (ZhH (ms) (ks) (rs) (A.add 0 1) ([AV.str ((A.nthA ks (A.nat 0)).cellAt 0).toS]))))))))) (bB (A.lt 10 (A.int (A.lenA rs))) (F (AV.tup [AV.agg (Row.gen [.int .i64 3, .int .i64 0]),AV.int .i64 8]) (none)) (K (ZhZ (ms) (ks) (rs))))
theorem ZhI{A:Ar}{K:KT}{F:FT}{M:MT}{ms ks rs:List AV} :ZaG A tab B6 119 K F M (.run 10 (.tf (.run 16 (.tf (.run 21 (.fn)) (.run 14 (.fy (.run 18 (.tf (.run 21 (.fn)) (.run 9 (.hd)))))))) (.run 9 (.tf (.run 20 (.fn)) (.run 13 (.hd)))))) (ZdB ms ks rs) (ZcH ms ks rs)=ZcU A K F ms ks rs:=by kernel_rfl
def ZcE(A:Ar)(K:KT)(F:FT)(ms ks rs:List AV)(n1:Int)(x2:List AV):Prop:=bB (A.lt n1 (A.int (A.lenA ks))) (rB [decide (List.length ((A.nthA ks (A.nat n1)).cellAt 0).toS≤1000000),Zae (Zae (A.le 0 n1) (Nat.blt (A.nat n1) (A.lenA ks))) true] (bB (A.not (ZaS ((A.nthA ks (A.nat n1)).cellAt 0).toS)) (F (AV.tup [AV.agg (Row.gen [.int .i64 2, .int .i64 n1]),AV.int .i64 4]) (none)) (rB [decide (List.length x2≤1000000),Zae (Zae (A.le 0 n1) (Nat.blt (A.nat n1) (A.lenA ks))) true] (bB (ZjP x2 ((A.nthA ks (A.nat n1)).cellAt 0).toS) (F (AV.tup [AV.agg (Row.gen [.int .i64 2, .int .i64 n1]),AV.int .i64 5]) (none)) (rB [A.inR .i64 (A.sub (A.int (A.lenA ms)) 1),Zae (Zae (A.le 0 n1) (Nat.blt (A.nat n1) (A.lenA ks))) true,Nat.ble (A.lenA x2+A.lenA [AV.str ((A.nthA ks (A.nat n1)).cellAt 0).toS]) 4294967296,List.all [AV.str ((A.nthA ks (A.nat n1)).cellAt 0).toS] fun x=>AV.bx x&&Nat.beq (Zab A x) 1,Zae (Zae (A.le 0 n1) (Nat.blt (A.nat n1) (A.lenA ks))) true] (bB (A.not (Zan ((A.nthA ks (A.nat n1)).cellAt 1).toI (-1) (A.sub (A.int (A.lenA ms)) 1))) (F (AV.tup [AV.agg (Row.gen [.int .i64 2, .int .i64 n1]),AV.int .i64 6]) (none)) (rB [A.inR .i64 (A.add n1 1)] (K (ZhH (ms) (ks) (rs) (A.add n1 1) (A.appA x2 [AV.str ((A.nthA ks (A.nat n1)).cellAt 0).toS])))))))))) (bB (A.lt 10 (A.int (A.lenA rs))) (F (AV.tup [AV.agg (Row.gen [.int .i64 3, .int .i64 0]),AV.int .i64 8]) (none)) (K (ZhZ (ms) (ks) (rs))))
theorem Zhn{A:Ar}{K:KT}{F:FT}{M:MT}{ms ks rs:List AV}{n1:Int}{x2:List AV} :ZaG A tab B6 119 K F M (.run 10 (.tf (.run 16 (.tf (.run 21 (.fn)) (.run 14 (.tf (.run 21 (.fn)) (.run 18 (.tf (.run 21 (.fn)) (.run 9 (.hd)))))))) (.run 9 (.tf (.run 20 (.fn)) (.run 13 (.hd)))))) (Ze9 ms ks rs n1 x2) (ZdT ms ks rs n1 x2)=ZcE A K F ms ks rs n1 x2:=by kernel_rfl
def Zef(A:Ar)(K:KT)(F:FT)(ms ks rs:List AV):Prop:=bB (A.lt 0 (A.int (A.lenA rs))) (rB [decide (List.length ((A.nthA rs (A.nat 0)).cellAt 0).toS≤1000000),Zae (Zae (A.le 0 0) (Nat.blt (A.nat 0) (A.lenA rs))) true] (bB (A.not (ZaS ((A.nthA rs (A.nat 0)).cellAt 0).toS)) (F (AV.tup [AV.agg (Row.gen [.int .i64 3, .int .i64 0]),AV.int .i64 4]) (none)) (rB [A.inR .i64 (A.sub (A.int (A.lenA ks)) 1),Zae (Nat.ble (A.lenA [AV.str ((A.nthA rs (A.nat 0)).cellAt 0).toS]) 4294967296) (Nat.blt 0 (A.lenA [AV.str ((A.nthA rs (A.nat 0)).cellAt 0).toS])),List.all [AV.str ((A.nthA rs (A.nat 0)).cellAt 0).toS] fun x=>AV.bx x&&Nat.beq (Zab A x) 1] (bB (A.not (Zan ((A.nthA rs (A.nat 0)).cellAt 1).toI 0 (A.sub (A.int (A.lenA ks)) 1))) (F (AV.tup [AV.agg (Row.gen [.int .i64 3, .int .i64 0]),AV.int .i64 6]) (none)) (rB [A.inR .i64 (A.sub (A.int (A.lenA ms)) 1)] (bB (A.not (Zan ((A.nthA rs (A.nat 0)).cellAt 2).toI (-1) (A.sub (A.int (A.lenA ms)) 1))) (F (AV.tup [AV.agg (Row.gen [.int .i64 3, .int .i64 0]),AV.int .i64 6]) (none)) (rB [A.inR .i64 (A.sub (A.int (A.lenA ks)) 1)] (bB (A.not (Zan ((A.nthA rs (A.nat 0)).cellAt 3).toI (-1) (A.sub (A.int (A.lenA ks)) 1))) (F (AV.tup [AV.agg (Row.gen [.int .i64 3, .int .i64 0]),AV.int .i64 6]) (none)) (bB (A.not (Zan ((A.nthA rs (A.nat 0)).cellAt 4).toI 1 1000000)) (F (AV.tup [AV.agg (Row.gen [.int .i64 3, .int .i64 0]),AV.int .i64 2]) (none)) (bB (A.eq ((A.nthA rs (A.nat 0)).cellAt 3).toI (-1)) (bB (A.not (A.eq ((A.nthA rs (A.nat 0)).cellAt 4).toI 1)) (F (AV.tup [AV.agg (Row.gen [.int .i64 3, .int .i64 0]),AV.int .i64 3]) (none)) (rB [A.inR .i64 (A.add 0 1)] (K (ZcV (ms) (ks) (rs) (A.add 0 1) ([AV.str ((A.nthA rs (A.nat 0)).cellAt 0).toS]))))) (rB [A.inR .i64 (A.add 0 1)] (K (ZcV (ms) (ks) (rs) (A.add 0 1) ([AV.str ((A.nthA rs (A.nat 0)).cellAt 0).toS])))))))))))))) (F (AV.tup [AV.agg (Row.gen [.int .i64 0, .int .i64 0]),AV.int .i64 0]) (none))
theorem Zhl{A:Ar}{K:KT}{F:FT}{M:MT}{ms ks rs:List AV} :ZaG A tab B6 119 K F M (.run 10 (.tf (.run 21 (.tf (.run 21 (.fn)) (.run 9 (.fy (.run 22 (.tf (.ty (.ty (.ty (.ty (.ty (.ty (.ty (.ty (.run 1 (.ty (.ty (.ty (.ty (.ty (.ty (.ty (.ty (.ty (.run 2 (.ty (.run 21 (.fn)))))))))))))))))))))) (.fy (.fy (.fy (.fy (.fy (.fy (.fy (.fy (.run 1 (.tf (.ty (.ty (.ty (.ty (.ty (.ty (.ty (.ty (.run 2 (.ty (.run 21 (.fn)))))))))))) (.fy (.fy (.fy (.fy (.fy (.fy (.fy (.fy (.run 2 (.tf (.run 21 (.fn)) (.run 9 (.tf (.run 21 (.fn)) (.run 7 (.tf (.ty (.ty (.ty (.run 2 (.tf (.run 21 (.fn)) (.run 9 (.hd))))))) (.fy (.fy (.fy (.run 2 (.fy (.run 9 (.hd))))))))))))))))))))))))))))))))))))) (.run 8 (.fn)))) (ZdA ms ks rs) (ZcI ms ks rs)=Zef A K F ms ks rs:=by kernel_rfl
def ZdX(A:Ar)(K:KT)(F:FT)(ms ks rs:List AV)(n3:Int)(x4:List AV):Prop:=bB (A.lt n3 (A.int (A.lenA rs))) (rB [decide (List.length ((A.nthA rs (A.nat n3)).cellAt 0).toS≤1000000),Zae (Zae (A.le 0 n3) (Nat.blt (A.nat n3) (A.lenA rs))) true] (bB (A.not (ZaS ((A.nthA rs (A.nat n3)).cellAt 0).toS)) (F (AV.tup [AV.agg (Row.gen [.int .i64 3, .int .i64 n3]),AV.int .i64 4]) (none)) (rB [decide (List.length x4≤1000000)] (bB (ZjP x4 ((A.nthA rs (A.nat n3)).cellAt 0).toS) (F (AV.tup [AV.agg (Row.gen [.int .i64 3, .int .i64 n3]),AV.int .i64 5]) (none)) (rB [A.inR .i64 (A.sub (A.int (A.lenA ks)) 1),Nat.ble (A.lenA x4+A.lenA [AV.str ((A.nthA rs (A.nat n3)).cellAt 0).toS]) 4294967296,List.all [AV.str ((A.nthA rs (A.nat n3)).cellAt 0).toS] fun x=>AV.bx x&&Nat.beq (Zab A x) 1] (bB (A.not (Zan ((A.nthA rs (A.nat n3)).cellAt 1).toI 0 (A.sub (A.int (A.lenA ks)) 1))) (F (AV.tup [AV.agg (Row.gen [.int .i64 3, .int .i64 n3]),AV.int .i64 6]) (none)) (rB [A.inR .i64 (A.sub (A.int (A.lenA ms)) 1)] (bB (A.not (Zan ((A.nthA rs (A.nat n3)).cellAt 2).toI (-1) (A.sub (A.int (A.lenA ms)) 1))) (F (AV.tup [AV.agg (Row.gen [.int .i64 3, .int .i64 n3]),AV.int .i64 6]) (none)) (rB [A.inR .i64 (A.sub (A.int (A.lenA ks)) 1)] (bB (A.not (Zan ((A.nthA rs (A.nat n3)).cellAt 3).toI (-1) (A.sub (A.int (A.lenA ks)) 1))) (F (AV.tup [AV.agg (Row.gen [.int .i64 3, .int .i64 n3]),AV.int .i64 6]) (none)) (bB (A.not (Zan ((A.nthA rs (A.nat n3)).cellAt 4).toI 1 1000000)) (F (AV.tup [AV.agg (Row.gen [.int .i64 3, .int .i64 n3]),AV.int .i64 2]) (none)) (bB (A.eq ((A.nthA rs (A.nat n3)).cellAt 3).toI (-1)) (bB (A.not (A.eq ((A.nthA rs (A.nat n3)).cellAt 4).toI 1)) (F (AV.tup [AV.agg (Row.gen [.int .i64 3, .int .i64 n3]),AV.int .i64 3]) (none)) (rB [A.inR .i64 (A.add n3 1)] (K (ZcV (ms) (ks) (rs) (A.add n3 1) (A.appA x4 [AV.str ((A.nthA rs (A.nat n3)).cellAt 0).toS]))))) (rB [A.inR .i64 (A.add n3 1)] (K (ZcV (ms) (ks) (rs) (A.add n3 1) (A.appA x4 [AV.str ((A.nthA rs (A.nat n3)).cellAt 0).toS])))))))))))))))) (F (AV.tup [AV.agg (Row.gen [.int .i64 0, .int .i64 0]),AV.int .i64 0]) (none))
theorem ZhJ{A:Ar}{K:KT}{F:FT}{M:MT}{ms ks rs:List AV}{n3:Int}{x4:List AV} :ZaG A tab B6 119 K F M (.run 10 (.tf (.run 21 (.tf (.run 21 (.fn)) (.run 9 (.tf (.run 21 (.fn)) (.run 22 (.tf (.ty (.ty (.ty (.ty (.ty (.ty (.ty (.ty (.run 1 (.ty (.ty (.ty (.ty (.ty (.ty (.ty (.ty (.ty (.run 2 (.ty (.run 21 (.fn)))))))))))))))))))))) (.fy (.fy (.fy (.fy (.fy (.fy (.fy (.fy (.run 1 (.tf (.ty (.ty (.ty (.ty (.ty (.ty (.ty (.ty (.run 2 (.ty (.run 21 (.fn)))))))))))) (.fy (.fy (.fy (.fy (.fy (.fy (.fy (.fy (.run 2 (.tf (.run 21 (.fn)) (.run 9 (.tf (.run 21 (.fn)) (.run 7 (.tf (.ty (.ty (.ty (.run 2 (.tf (.run 21 (.fn)) (.run 9 (.hd))))))) (.fy (.fy (.fy (.run 2 (.fy (.run 9 (.hd))))))))))))))))))))))))))))))))))))) (.run 8 (.fn)))) (ZfE ms ks rs n3 x4) (Zev ms ks rs n3 x4)=ZdX A K F ms ks rs n3 x4:=by kernel_rfl
end Go.Proofs.YtkeoeooghhjibaaGreatDoor
