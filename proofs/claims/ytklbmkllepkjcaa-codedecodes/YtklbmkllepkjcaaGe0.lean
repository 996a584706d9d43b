/- Paths of functions, printed by the explorer (Gx). No condition. -/
import Derived.Test.YtklbmkllepkjcaaGb
import Derived.KernelRfl
namespace Go.Proofs.Ytklbmkllepkjcaa
set_option maxRecDepth 100000
set_option linter.unusedVariables false
def ZwB(n:Int):AFrame:={ fn:=129,N:=6,env:=[(0,AV.int .i64 n)],todo:=[.code a129.code],defs:=[],rnd:=none,ret:=false,res:=[ARes.tmp 2] }
def ZHU(n:Int):List AFrame:=[(ZwB n)]
theorem ZvX(n:Int):Zau tab 129 [AV.int .i64 n]=some (ZwB n):=rfl
def ZwG(A:Ar)(K:KT)(F:FT)(n:Int):Prop:=rB [decide (0≤A.sub 14 n),A.inR .i64 (A.sub 14 n)] (F (AV.int .i64 (gP (A.sub 14 n))) (none))
theorem ZDP{A:Ar}{K:KT}{F:FT}{M:MT}{n:Int} :Zal A tab Kb 129 K F M (.run 12 (.fn)) (ZHU n) []=ZwG A K F n:=by kernel_rfl
def ZB8(n:Int):AFrame:={ fn:=73,N:=6,env:=[(0,AV.int .i64 n)],todo:=[.code a73.code],defs:=[],rnd:=none,ret:=false,res:=[ARes.tmp 2] }
def ZKV(n:Int):List AFrame:=[(ZB8 n)]
theorem Zzm(n:Int):Zau tab 73 [AV.int .i64 n]=some (ZB8 n):=rfl
def ZDl(A:Ar)(K:KT)(F:FT)(n:Int):Prop:=F (AV.int .i64 (Zaf (Zao n 1 3) 2)) (none)
theorem ZF0{A:Ar}{K:KT}{F:FT}{M:MT}{n:Int} :Zal A tab Kb 73 K F M (.run 12 (.fn)) (ZKV n) []=ZDl A K F n:=by kernel_rfl
def ZCo(xs:List Int)(n:Int):AFrame:={ fn:=74,N:=14,env:=[(0,AV.list (.ints .i64 xs)),(1,AV.int .i64 n)],todo:=[.code a74.code],defs:=[],rnd:=none,ret:=false,res:=[ARes.tmp 4] }
def ZKF(xs:List Int)(n:Int):List AFrame:=[(ZCo xs n)]
theorem ZzJ(xs:List Int)(n:Int):Zau tab 74 [AV.list (.ints .i64 xs),AV.int .i64 n]=some (ZCo xs n):=rfl
def ZDi(A:Ar)(K:KT)(F:FT)(xs:List Int)(n:Int):Prop:=rB [decide (List.length [Zaf (A.eq (A.int (A.len xs)) n) 10,Zcs xs 0 15]≤1000000),List.all [AV.int .i64 (Zaf (A.eq (A.int (A.len xs)) n) 10),AV.int .i64 (Zcs xs 0 15)] fun x=>AV.bx x&&Nat.beq (Zag A x) 1,decide (List.length xs≤1000000)] (F (AV.int .i64 (Zak [Zaf (A.eq (A.int (A.len xs)) n) 10,Zcs xs 0 15])) (none))
theorem ZH8{A:Ar}{K:KT}{F:FT}{M:MT}{xs:List Int}{n:Int} :Zal A tab Kb 74 K F M (.run 19 (.fn)) (ZKF xs n) []=ZDi A K F xs n:=by kernel_rfl
def ZEo(n:Int):AFrame:={ fn:=21,N:=5,env:=[(0,AV.int .i64 n)],todo:=[.code a21.code],defs:=[],rnd:=none,ret:=false,res:=[ARes.tmp 2] }
def ZKZ(n:Int):List AFrame:=[(ZEo n)]
theorem ZxT(n:Int):Zau tab 21 [AV.int .i64 n]=some (ZEo n):=rfl
def ZDR(A:Ar)(K:KT)(F:FT)(n:Int):Prop:=F (AV.bool (Zao n 0 15)) (none)
theorem ZGG{A:Ar}{K:KT}{F:FT}{M:MT}{n:Int} :Zal A tab Kb 21 K F M (.run 11 (.fn)) (ZKZ n) []=ZDR A K F n:=by kernel_rfl
def ZD7(n:Int):AFrame:={ fn:=23,N:=6,env:=[(0,AV.int .i64 n)],todo:=[.code a23.code],defs:=[],rnd:=none,ret:=false,res:=[ARes.tmp 2] }
def ZKa(n:Int):List AFrame:=[(ZD7 n)]
theorem Zyd(n:Int):Zau tab 23 [AV.int .i64 n]=some (ZD7 n):=rfl
def ZEs(A:Ar)(K:KT)(F:FT)(n:Int):Prop:=bB (A.not (Zao n 1 3)) (F (AV.int .i64 2) (none)) (F (AV.int .i64 0) (none))
theorem ZH0{A:Ar}{K:KT}{F:FT}{M:MT}{n:Int} :Zal A tab Kb 23 K F M (.run 11 (.tf (.run 5 (.fn)) (.run 6 (.fn)))) (ZKa n) []=ZEs A K F n:=by kernel_rfl
def ZE7(xs:List Int):AFrame:={ fn:=24,N:=8,env:=[(0,AV.list (.ints .i64 xs))],todo:=[.code a24.code],defs:=[],rnd:=none,ret:=false,res:=[ARes.tmp 2] }
def ZKQ(xs:List Int):List AFrame:=[(ZE7 xs)]
theorem ZAo(xs:List Int):Zau tab 24 [AV.list (.ints .i64 xs)]=some (ZE7 xs):=rfl
def ZyU(A:Ar)(K:KT)(F:FT)(xs:List Int):Prop:=bB (A.not (A.eq (A.int (A.len xs)) 15)) (F (AV.int .i64 10) (none)) (rB [decide (List.length xs≤1000000)] (F (AV.int .i64 (Zcs xs 0 15)) (none)))
theorem ZH6{A:Ar}{K:KT}{F:FT}{M:MT}{xs:List Int} :Zal A tab Kb 24 K F M (.run 11 (.tf (.run 5 (.fn)) (.run 8 (.fn)))) (ZKQ xs) []=ZyU A K F xs:=by kernel_rfl
def ZwE(w:List Int)(j:Int):AFrame:={ fn:=112,N:=24,env:=[(0,AV.agg (.ints .i64 w)),(1,AV.int .i64 j)],todo:=[.code a112.code],defs:=[],rnd:=none,ret:=false,res:=[ARes.tmp 4] }
def ZGo(w:List Int)(j:Int):List AFrame:=[(ZwE w j)]
theorem Zuu(w:List Int)(j:Int):Zau tab 112 [AV.agg (.ints .i64 w),AV.int .i64 j]=some (ZwE w j):=rfl
def ZeO(j:Int)(l0:List Int)(n1 n2:Int):List AFrame:=[{ fn:=112,N:=24,env:=[(1,AV.int .i64 j),(5,AV.int .i64 n1),(8,AV.agg (.ints .i64 l0)),(9,AV.int .i64 n2)],todo:=.code (ACode.gh [] Zxw)::ZDr,defs:=[],rnd:=none,ret:=false,res:=[ARes.tmp 4] }]
def ZdC(j:Int)(l0:List Int)(n1 n2:Int):Zaa:=[]
abbrev Zhx(j:Int)(l0:List Int)(n1 n2:Int):List AFrame×Zaa:=(ZeO j l0 n1 n2,ZdC j l0 n1 n2)
def Zxz(A:Ar)(K:KT)(F:FT)(w:List Int)(j:Int):Prop:=rB [Nat.ble 15 (A.len w),Nat.blt 0 (A.len w)] (K (Zhx (j) (A.sub3 w 0 15) (0) (0)))
theorem ZDV{A:Ar}{K:KT}{F:FT}{M:MT}{w:List Int}{j:Int} :Zal A tab Kb 112 K F M (.run 18 (.hd)) (ZGo w j) []=Zxz A K F w j:=by kernel_rfl
def ZdO(A:Ar)(K:KT)(F:FT)(j:Int)(l0:List Int)(n1 n2:Int):Prop:=bB (A.lt n2 15) (rB [A.inR .i64 (A.add n2 1),decide (elB (A.nth l0 (A.nat n2))=true∧elB (gP (A.mul j (A.sub 14 n2)))=true),decide (0≤A.mul j (A.sub 14 n2)),A.inR .i64 (A.mul j (A.sub 14 n2)),A.inR .i64 (A.sub 14 n2),Zad (Zad (A.le 0 n2) (A.lt n2 (A.int 15))) (Nat.blt (A.nat n2) (A.len l0))] (K (Zhx (j) (l0) (A.bits Go.BinOp.xor .i64 n1 (gM (A.nth l0 (A.nat n2)) (gP (A.mul j (A.sub 14 n2))))) (A.add n2 1)))) (F (AV.int .i64 n1) (none))
theorem Zhy{A:Ar}{K:KT}{F:FT}{M:MT}{j:Int}{l0:List Int}{n1 n2:Int} :Zal A tab Kb 112 K F M (.run 6 (.tf (.run 29 (.hd)) (.run 7 (.fn)))) (ZeO j l0 n1 n2) (ZdC j l0 n1 n2)=ZdO A K F j l0 n1 n2:=by kernel_rfl
def ZCS(h:Int)(w:List Int):AFrame:={ fn:=25,N:=42,env:=[(0,AV.int .i64 h),(1,AV.list (.ints .i64 w))],todo:=[.code a25.code],defs:=[],rnd:=none,ret:=false,res:=[ARes.tmp 4] }
def ZKc(h:Int)(w:List Int):List AFrame:=[(ZCS h w)]
theorem ZzQ(h:Int)(w:List Int):Zau tab 25 [AV.int .i64 h,AV.list (.ints .i64 w)]=some (ZCS h w):=rfl
def ZfB(h:Int)(w:List Int)(n0:Int)(l1:List Int):List AFrame:=[{ fn:=25,N:=42,env:=[(0,AV.int .i64 h),(1,AV.list (.ints .i64 w)),(5,AV.row 25041 0),(6,AV.int .i64 n0)],todo:=.code (ACode.gh [] ZAO)::ZHT,defs:=[],rnd:=none,ret:=false,res:=[ARes.tmp 4] }]
def Zeu(h:Int)(w:List Int)(n0:Int)(l1:List Int):Zaa:=[(25041,{ base:=0,blks:=[Blk.row 3 1 (.ints .i64 l1)] })]
abbrev ZjM(h:Int)(w:List Int)(n0:Int)(l1:List Int):List AFrame×Zaa:=(ZfB h w n0 l1,Zeu h w n0 l1)
def Zi3(h:Int)(w:List Int)(n0:Int)(l1:List Int)(n2 n3:Int):List AFrame:=[{ fn:=25,N:=42,env:=[(0,AV.int .i64 h),(1,AV.list (.ints .i64 w)),(5,AV.row 25041 0),(6,AV.int .i64 n0),(7,AV.int .i64 n2),(8,AV.int .i64 n3)],todo:=.code (ACode.gh [] ZBV)::ZFM,defs:=[],rnd:=none,ret:=false,res:=[ARes.tmp 4] }]
def ZgV(h:Int)(w:List Int)(n0:Int)(l1:List Int)(n2 n3:Int):Zaa:=[(25041,{ base:=0,blks:=[Blk.row 3 1 (.ints .i64 l1)] })]
abbrev ZjX(h:Int)(w:List Int)(n0:Int)(l1:List Int)(n2 n3:Int):List AFrame×Zaa:=(Zi3 h w n0 l1 n2 n3,ZgV h w n0 l1 n2 n3)
def ZFi(A:Ar)(K:KT)(F:FT)(h:Int)(w:List Int):Prop:=K (ZjM (h) (w) (1) ([]))
theorem ZHa{A:Ar}{K:KT}{F:FT}{M:MT}{h:Int}{w:List Int} :Zal A tab Kb 25 K F M (.run 17 (.hd)) (ZKc h w) []=ZFi A K F h w:=by kernel_rfl
def Zgq(A:Ar)(K:KT)(F:FT)(h:Int)(w:List Int)(n0:Int)(l1:List Int):Prop:=rB [A.inR .i64 (A.mul 2 h)] (bB (A.le n0 (A.mul 2 h)) (K (ZjX (h) (w) (n0) (l1) (0) (0))) (F (AV.row 0 0) (some { e:=3,sz:=1,r:=.ints .i64 l1 })))
theorem ZkP{A:Ar}{K:KT}{F:FT}{M:MT}{h:Int}{w:List Int}{n0:Int}{l1:List Int} :Zal A tab Kb 25 K F M (.run 9 (.tf (.run 15 (.hd)) (.run 7 (.fn)))) (ZfB h w n0 l1) (Zeu h w n0 l1)=Zgq A K F h w n0 l1:=by kernel_rfl
def ZgP(A:Ar)(K:KT)(F:FT)(h:Int)(w:List Int)(n0:Int)(l1:List Int)(n2 n3:Int):Prop:=bB (A.lt n3 (A.int (A.len w))) (rB [A.inR .i64 (A.add n3 1),decide (elB (A.nth w (A.nat n3))=true∧elB (gP (A.rem (A.mul n0 (A.sub (A.sub (A.int (A.len w)) 1) n3)) 15))=true),decide (0≤A.rem (A.mul n0 (A.sub (A.sub (A.int (A.len w)) 1) n3)) 15∧A.rem (A.mul n0 (A.sub (A.sub (A.int (A.len w)) 1) n3)) 15≤1000),A.not (A.eq 15 0),A.inR .i64 (A.mul n0 (A.sub (A.sub (A.int (A.len w)) 1) n3)),A.inR .i64 (A.sub (A.sub (A.int (A.len w)) 1) n3),A.inR .i64 (A.sub (A.int (A.len w)) 1),Zad (Zad (A.le 0 n3) (Nat.blt (A.nat n3) (A.len w))) true] (K (ZjX (h) (w) (n0) (l1) (A.bits Go.BinOp.xor .i64 n2 (gM (A.nth w (A.nat n3)) (gP (A.rem (A.mul n0 (A.sub (A.sub (A.int (A.len w)) 1) n3)) 15)))) (A.add n3 1)))) (rB [A.inR .i64 (A.add n0 1),Nat.ble (A.len l1+A.len [n2]) 4294967296,List.all [AV.int .i64 n2] fun x=>AV.bx x&&Nat.beq (Zag A x) 1] (K (ZjM (h) (w) (A.add n0 1) (A.app l1 [n2]))))
theorem ZjD{A:Ar}{K:KT}{F:FT}{M:MT}{h:Int}{w:List Int}{n0:Int}{l1:List Int}{n2 n3:Int} :Zal A tab Kb 25 K F M (.run 9 (.tf (.run 12 (.hd)) (.run 16 (.hd)))) (Zi3 h w n0 l1 n2 n3) (ZgV h w n0 l1 n2 n3)=ZgP A K F h w n0 l1 n2 n3:=by kernel_rfl
end Go.Proofs.Ytklbmkllepkjcaa
/- Contracts as a list. No condition. -/
namespace Go.Proofs.Ytklbmkllepkjcaa
def Znp(j:Nat):Nat→List Nat→Nat
 |_,[]=>0
 |i,a::l=>Zar a (Zbe (j*(14-i))) ^^^ Znp j (i+1) l
def wdN(w:List Int):List Nat:=w.map Int.toNat
def syI(w:List Int)(j:Nat):Int:=((Znp j 0 (wdN w):Nat):Int)
def okw(w:List Int):Bool:=decide (w.length=15)&&decide (Zcs w 0 15=0)
theorem okw_iff{w:List Int} :okw w=true↔w.length=15∧Zcs w 0 15=0:=by
 unfold okw;rw[Bool.and_eq_true,decide_eq_true_eq,decide_eq_true_eq]
theorem Zot{w:List Int}(h:Zcs w 0 15=0)(i:Nat):elB (w.getD i 0)=true:=decide_eq_true (by have:=ZCb h (by omega) i;omega)
theorem ZAP{w:List Int}(h:Zcs w 0 15=0):∀x∈wdN w,x<16:=fun x hx=>by
 obtain⟨y,hy,rfl⟩:=List.mem_map.1 hx
 unfold Zcs at h
 split at h
 ·rename_i hall
  have:=of_decide_eq_true (List.all_eq_true.1 hall y hy)
  omega
 ·cases h
theorem ZoY(w:List Int):(wdN w).length=w.length:=by simp[wdN]
theorem Zov{w:List Int}{i:Nat}(h:i<w.length):(wdN w).drop i=(w.getD i 0).toNat::(wdN w).drop (i+1):=by
 rw[List.drop_eq_getElem_cons (by rw[ZoY];exact h)]
 unfold wdN
 rw[List.getElem_map,List.getD_eq_getElem?_getD,List.getElem?_eq_getElem h];rfl
theorem ZsL(j:Nat):∀(l:List Nat) (i:Nat),(∀x∈l,x<16)→Znp j i l<16
 |[],_,_=>by simp[Znp]
 |a::l,i,h=>ZbZ (Zbl (h a List.mem_cons_self) (ZbD _)) (ZsL j l (i+1) fun x hx=>h x (List.mem_cons_of_mem _ hx))
theorem ZAI(n:Int):elB (gP n)=true:=ZaR (ZbD _)
theorem ZDZ{w:List Int}(h:Zcs w 0 15=0)(j:Nat):elB (syI w j)=true:=ZaR (ZsL j _ 0 (ZAP h))
def ZyA(n:Int):Int:=gP (14-n)
theorem Zs1(n:Int)(h:0≤n∧n≤14):Zai Try.prog 129 [.int .i64 n] (.int .i64 (ZyA n)) none:=
 start (ZvX n) fun C hC=>tgo hC ZeU ZDP (by simp[ZwG,ZyA];omega)
def hfE(h:Int):Int:=Zaf (Zao h 1 3) 2
theorem ZsJ(h:Int):Zai Try.prog 73 [.int .i64 h] (.int .i64 (hfE h)) none:=
 start (Zzm h) fun C hC=>tgo hC ZeU ZF0 (by simp[ZDl,hfE])
theorem Zro(h:Int):Zai Try.prog 23 [.int .i64 h] (.int .i64 (hfE h)) none:=
 start (Zyd h) fun C hC=>tgo hC ZeU ZH0 (by cases e:Zao h 1 3<;>simp[ZEs,hfE,Zaf,e])
def elE(l:List Int)(n:Int):Int:=Zak [Zaf (decide ((l.length:Int)=n)) 10,Zcs l 0 15]
theorem ZuW(l:List Int)(n:Int)(hl:l.length≤1000000):Zai Try.prog 74 [.list (.ints .i64 l), .int .i64 n] (.int .i64 (elE l n)) none:=
 start (ZzJ l n) fun C hC=>tgo hC ZeU ZH8 (by simp[ZDi,elE,hl,AV.bx,Zag])
theorem ZvA(n:Int):Zai Try.prog 21 [.int .i64 n] (.bool (Zao n 0 15)) none:=
 start (ZxT n) fun C hC=>tgo hC ZeU ZGG (by simp[ZDR])
theorem Zvt(l:List Int):Zai Try.prog 24 [.list (.ints .i64 l)] (.int .i64 (elE l 15)) none:=
 start (ZAo l) fun C hC=>tgo hC ZeU ZH6 (by
  by_cases h:l.length=15
  ·have e:elE l 15=Zcs l 0 15:=by
    unfold elE Zaf
    simp only[h,Zak]
    by_cases h0:Zcs l 0 15=0<;>simp[h0]
   simp[ZyU,e,h]
  ·have h':¬(l.length:Int)=15:=by omega
   have e:elE l 15=10:=by simp[elE,Zaf,h',Zak]
   simp[ZyU,e,h'])
def syL(w:List Int)(n:Nat):List Int:=(List.range n).map fun i=>syI w (i+1)
theorem Zd7(w:List Int)(n:Nat):(syL w n).length=n:=by simp[syL]
theorem Zo4(w:List Int)(n:Nat):syL w (n+1)=syL w n++[syI w (n+1)]:=by unfold syL;rw[List.range_succ,List.map_append];rfl
section
variable {C:Ctx}(hC:C.P=Try.prog){w:List Int}(hw:w.length=15)(hr:Zcs w 0 15=0)
include hC hw hr
theorem ZJT(j:Nat)(hj:j≤1000):∀(k i x:Nat),i+k=15→x<16→Ev C (ZeO j w x i) (ZdC j w x i) (ZaL 112 (.int .i64 ((x ^^^ Znp j i ((wdN w).drop i):Nat):Int)) none):=by
 intro k
 induction k with
 |zero=>
  intro i x hi hx
  refine tgo hC ZeU Zhy ?_
  rw[List.drop_of_length_le (by rw[ZoY];omega),Znp,Nat.xor_zero]
  have h15:i=15:=by omega
  subst h15
  simp[ZdO]
 |succ k ih=>
  intro i x hi hx
  refine tgo hC ZeU Zhy ?_
  have e0:=Zot hr i
  obtain⟨a,ha,ha16⟩:=Zdx e0
  have m0:(j:Int)*(14-(i:Int))=((j*(14-i):Nat):Int):=by rw[Int.natCast_mul];congr 1;omega
  have m1:j*(14-i)≤14000:=by
   have:=Nat.mul_le_mul hj (show 14-i≤14 by omega);omega
  have b1:0≤(j:Int)*(14-(i:Int))∧(j:Int)*(14-(i:Int))≤14000:=by rw[m0];omega
  have e1:gM (w.getD i 0) (gP ((j:Int)*(14-(i:Int))))=((Zar a (Zbe (j*(14-i))):Nat):Int):=by rw[m0,ha];rfl
  have l1:=Zbl ha16 (ZbD (j*(14-i)))
  have e2:=ZbS (r:=x) (k:=Zar a (Zbe (j*(14-i)))) (by omega) (by omega)
  have i':=ih (i+1) (x ^^^ Zar a (Zbe (j*(14-i)))) (by omega) (ZbZ hx l1)
  rw[Zov (by omega),Znp,ha,Int.toNat_natCast,←Nat.xor_assoc]
  have e3:=ZAI ((j:Int)*(14-(i:Int)))
  have hi15:(i:Int)<15:=by omega
  have hi2:i<15:=by omega
  simp only[ZdO,ZtU,ZmU,Zbb,ZaO,Int.toNat_natCast,e1,e2,e3,e0]
  simp[hi15,hi2,hw]at i'⊢
  refine⟨?_,i'⟩
  exact⟨by omega,decide_eq_true b1.1,by omega,by omega⟩
theorem ZJt(h:Int)(j:Nat)(hj:j≤6)(l:List Int)(hl:l.length≤1000)(r:AV)(fr:Option Fresh)
 (hn:Ev C (ZfB h w ((j+1:Nat):Int) (l++[syI w j])) (Zeu h w ((j+1:Nat):Int) (l++[syI w j])) (ZaL 25 r fr)):
 ∀(k i x:Nat),i+k=15→x<16→x ^^^ Znp j i ((wdN w).drop i)=Znp j 0 (wdN w)→Ev C (Zi3 h w j l x i) (ZgV h w j l x i) (ZaL 25 r fr):=by
 intro k
 induction k with
 |zero=>
  intro i x hi hx he
  refine tgo hC ZeU ZjD ?_
  rw[List.drop_of_length_le (by rw[ZoY];omega),Znp,Nat.xor_zero]at he
  subst he
  have h15:i=15:=by omega
  subst h15
  unfold syI at hn
  simp[ZgP,hw,AV.bx,Zag]at hn⊢
  exact⟨by omega,hn⟩
 |succ k ih=>
  intro i x hi hx he
  refine tgo hC ZeU ZjD ?_
  have e0:=Zot hr i
  obtain⟨a,ha,ha16⟩:=Zdx e0
  have m1:j*(14-i)≤84:=by
   have:=Nat.mul_le_mul hj (show 14-i≤14 by omega);omega
  have m0:((j*(14-i):Nat):Int).tmod 15=((j*(14-i)%15:Nat):Int):=rfl
  have m2:(j:Int)*((w.length:Int)-1-(i:Int))=((j*(14-i):Nat):Int):=by rw[Int.natCast_mul];congr 1;omega
  have e1:gM (w.getD i 0) (gP ((j*(14-i)%15:Nat):Int))=((Zar a (Zbe (j*(14-i))):Nat):Int):=by rw[ZpK (j*(14-i)),ha];rfl
  have l1:=Zbl ha16 (ZbD (j*(14-i)))
  have e2:=ZbS (r:=x) (k:=Zar a (Zbe (j*(14-i)))) (by omega) (by omega)
  rw[Zov (by omega),Znp,ha,Int.toNat_natCast,←Nat.xor_assoc]at he
  have i':=ih (i+1) (x ^^^ Zar a (Zbe (j*(14-i)))) (by omega) (ZbZ hx l1) he
  have e3:=ZAI ((j*(14-i)%15:Nat):Int)
  have hi15:(i:Int)<15:=by omega
  have hi2:i<15:=by omega
  simp only[ZgP,ZtU,ZmU,Zbb,ZaO,ZyK,ZlC,ZbE,Int.toNat_natCast,m0,m2,e1,e2,e3,e0]
  simp[hi15,hi2,hw]at i'⊢
  refine⟨?_,i'⟩
  omega
theorem ZKN(h:Int)(hh:1≤h∧h≤3):∀(k j:Nat),(j:Int)+k=2*h→Ev C (ZfB h w ((j+1:Nat):Int) (syL w j)) (Zeu h w ((j+1:Nat):Int) (syL w j)) (ZaL 25 (.row 0 0) (some ⟨3,1, .ints .i64 (syL w (2*h.toNat))⟩)):=by
 intro k
 induction k with
 |zero=>
  intro j hj
  refine tgo hC ZeU ZkP ?_
  rw[show 2*h.toNat=j by omega]
  simp[Zgq,show ¬(j:Int)+1≤2*h by omega]
  omega
 |succ k ih=>
  intro j hj
  refine tgo hC ZeU ZkP ?_
  have i:=ih (j+1) (by omega)
  rw[Zo4]at i
  have i2:=ZJt hC hw hr h (j+1) (by omega) (syL w j) (by rw[Zd7];omega) _ _ i 15 0 0 (by omega) (by omega) (by rw[List.drop_zero,Nat.zero_xor])
  simp[Zgq,show(j:Int)+1≤2*h by omega]at i2⊢
  exact⟨by omega,i2⟩
end
def hfB(h:Int):Bool:=decide (1≤h∧h≤3)
theorem Zwj(h:Int)(w:List Int)(hh:hfB h=true)(hw:okw w=true):Zai Try.prog 25 [.int .i64 h, .list (.ints .i64 w)] (.row 0 0) (some ⟨3,1, .ints .i64 (syL w (2*h.toNat))⟩):=by
 obtain⟨w1,w2⟩:=okw_iff.1 hw
 have hh:=of_decide_eq_true hh
 refine start (ZzQ h w) fun C hC=>tgo hC ZeU ZHa ?_
 have i:=ZKN hC w1 w2 h hh (2*h.toNat) 0 (by omega)
 simp[ZFi,syL]at i⊢
 exact i
theorem Zra(w:List Int)(j:Int)(hw:okw w=true)(hj:0≤j∧j≤1000):Zai Try.prog 112 [.agg (.ints .i64 w), .int .i64 j] (.int .i64 (syI w j.toNat)) none:=by
 obtain⟨w1,w2⟩:=okw_iff.1 hw
 obtain⟨n,rfl⟩:=Int.eq_ofNat_of_zero_le hj.1
 refine start (Zuu w n) fun C hC=>tgo hC ZeU ZDV ?_
 have i:=ZJT hC w1 w2 n (by omega) 15 0 0 (by omega) (by omega)
 have e:std.sub3 w 0 15=w:=by show(w.drop 0).take 15=w;rw[List.drop_zero,List.take_of_length_le (by omega)]
 rw[List.drop_zero,Nat.zero_xor]at i
 simp only[Zxz,e]
 simp[w1,syI]at i⊢
 exact i
def k129:Ctr:=⟨129,0,fun _ a=>match a with |[.int .i64 n]=>some (decide (0≤n∧n≤14), .int .i64 (ZyA n),none) |_=>none⟩
theorem ZAf:k129.OK Try.prog:=fun pa args r fr h=>by
 simp only[k129]at h
 split at h
 ·simp only[Option.some.injEq,Prod.mk.injEq,decide_eq_true_eq]at h
  obtain⟨h0,rfl,rfl⟩:=h
  exact Zs1 _ h0
 ·cases h
def k73:Ctr:=⟨73,0,fun _ a=>match a with |[.int .i64 h]=>some (true, .int .i64 (hfE h),none) |_=>none⟩
theorem ZDm:k73.OK Try.prog:=fun pa args r fr h=>by
 simp only[k73]at h
 split at h
 ·cases h
  exact ZsJ _
 ·cases h
def k23:Ctr:=⟨23,0,fun _ a=>match a with |[.int .i64 h]=>some (true, .int .i64 (hfE h),none) |_=>none⟩
theorem ZD3:k23.OK Try.prog:=fun pa args r fr h=>by
 simp only[k23]at h
 split at h
 ·cases h
  exact Zro _
 ·cases h
def k74:Ctr:=⟨74,0,fun _ a=>match a with |[.list (.ints .i64 l), .int .i64 n]=>some (decide (l.length≤1000000), .int .i64 (elE l n),none) |_=>none⟩
theorem ZE9:k74.OK Try.prog:=fun pa args r fr h=>by
 simp only[k74]at h
 split at h
 ·simp only[Option.some.injEq,Prod.mk.injEq,decide_eq_true_eq]at h
  obtain⟨h0,rfl,rfl⟩:=h
  exact ZuW _ _ h0
 ·cases h
def k21:Ctr:=⟨21,0,fun _ a=>match a with |[.int .i64 n]=>some (true, .bool (Zao n 0 15),none) |_=>none⟩
theorem ZCp:k21.OK Try.prog:=fun pa args r fr h=>by
 simp only[k21]at h
 split at h
 ·cases h
  exact ZvA _
 ·cases h
def k24:Ctr:=⟨24,0,fun _ a=>match a with |[.list (.ints .i64 l)]=>some (true, .int .i64 (elE l 15),none) |_=>none⟩
theorem ZCF:k24.OK Try.prog:=fun pa args r fr h=>by
 simp only[k24]at h
 split at h
 ·cases h
  exact Zvt _
 ·cases h
def k25:Ctr:=⟨25,0,fun _ a=>match a with |[.int .i64 h, .list (.ints .i64 w)]=>some (decide (hfB h=true∧okw w=true), .row 0 0,some ⟨3,1, .ints .i64 (syL w (2*h.toNat))⟩) |_=>none⟩
theorem ZC8:k25.OK Try.prog:=fun pa args r fr h=>by
 simp only[k25]at h
 split at h
 ·simp only[Option.some.injEq,Prod.mk.injEq,decide_eq_true_eq]at h
  obtain⟨h0,rfl,rfl⟩:=h
  exact Zwj _ _ h0.1 h0.2
 ·cases h
def k112:Ctr:=⟨112,0,fun _ a=>match a with |[.agg (.ints .i64 w), .int .i64 j]=>some (decide (okw w=true∧0≤j∧j≤1000), .int .i64 (syI w j.toNat),none) |_=>none⟩
theorem ZxN:k112.OK Try.prog:=fun pa args r fr h=>by
 simp only[k112]at h
 split at h
 ·simp only[Option.some.injEq,Prod.mk.injEq,decide_eq_true_eq]at h
  obtain⟨h0,rfl,rfl⟩:=h
  exact Zra _ _ h0.1 h0.2
 ·cases h
def Kc:List Ctr:=[k129,k73,k23,k74,k21,k24,k25,k112]++Kb
theorem Zjw:Zaz Try.prog Kc:=⟨ZAf,⟨ZDm,⟨ZD3,⟨ZE9,⟨ZCp,⟨ZCF,⟨ZC8,⟨ZxN,ZeU⟩⟩⟩⟩⟩⟩⟩⟩
end Go.Proofs.Ytklbmkllepkjcaa
/- Paths of functions, printed by the explorer (Gx). No condition. -/
namespace Go.Proofs.Ytklbmkllepkjcaa
set_option maxRecDepth 100000
set_option linter.unusedVariables false
def ZEc(w:List Int)(h:Int):AFrame:={ fn:=75,N:=20,env:=[(0,AV.agg (.ints .i64 w)),(1,AV.int .i64 h)],todo:=[.code a75.code],defs:=[],rnd:=none,ret:=false,res:=[ARes.tmp 4] }
def ZKC(w:List Int)(h:Int):List AFrame:=[(ZEc w h)]
theorem Zx2(w:List Int)(h:Int):Zau tab 75 [AV.agg (.ints .i64 w),AV.int .i64 h]=some (ZEc w h):=rfl
def Zig(w:List Int)(h:Int)(A:Ar)(n0:Int)(l1:List Int):List AFrame:=[{ fn:=75,N:=20,env:=[(1,AV.int .i64 h),(2,AV.ptr 75003 0 0 0),(5,AV.row 75019 0),(6,AV.int .i64 n0)],todo:=.code (ACode.gh [] ZC3)::ZHO,defs:=[],rnd:=none,ret:=false,res:=[ARes.tmp 4] }]
def Zf4(w:List Int)(h:Int)(A:Ar)(n0:Int)(l1:List Int):Zaa:=[(75003,{ base:=0,blks:=[Blk.row 107 (A.len w) (Row.gen [.agg (.ints .i64 w)])] }),(75019,{ base:=0,blks:=[Blk.row 3 1 (.ints .i64 l1)] })]
abbrev Zk6(w:List Int)(h:Int)(A:Ar)(n0:Int)(l1:List Int):List AFrame×Zaa:=(Zig w h A n0 l1,Zf4 w h A n0 l1)
def ZBF(A:Ar)(K:KT)(F:FT)(w:List Int)(h:Int):Prop:=rB [Nat.blt 0 (A.len w)] (K (Zk6 (w) (h) (A) (1) ([])))
theorem ZHQ{A:Ar}{K:KT}{F:FT}{M:MT}{w:List Int}{h:Int} :Zal A tab Kc 75 K F M (.run 18 (.hd)) (ZKC w h) []=ZBF A K F w h:=by kernel_rfl
def ZgO(A:Ar)(K:KT)(F:FT)(w:List Int)(h n0:Int)(l1:List Int):Prop:=rB [A.inR .i64 (A.mul 2 h)] (bB (A.le n0 (A.mul 2 h)) (rB [A.inR .i64 (A.add n0 1),Nat.ble (A.len l1+A.len [syI (A.sub3 w 0 15) (Int.toNat n0)]) 4294967296,List.all [AV.int .i64 (syI (A.sub3 w 0 15) (Int.toNat n0))] fun x=>AV.bx x&&Nat.beq (Zag A x) 1,decide (okw (A.sub3 w 0 15)=true∧0≤n0∧n0≤1000),Nat.ble 15 (A.len w)] (K (Zk6 (w) (h) (A) (A.add n0 1) (A.app l1 [syI (A.sub3 w 0 15) (Int.toNat n0)])))) (F (AV.row 0 0) (some { e:=3,sz:=1,r:=.ints .i64 l1 })))
theorem Zko{A:Ar}{K:KT}{F:FT}{M:MT}{w:List Int}{h n0:Int}{l1:List Int} :Zal A tab Kc 75 K F M (.run 9 (.tf (.run 20 (.hd)) (.run 7 (.fn)))) (Zig w h A n0 l1) (Zf4 w h A n0 l1)=ZgO A K F w h n0 l1:=by kernel_rfl
def ZE5(h:Int)(w:List Int):AFrame:={ fn:=95,N:=21,env:=[(0,AV.int .i64 h),(1,AV.list (.ints .i64 w))],todo:=[.code a95.code],defs:=[],rnd:=none,ret:=false,res:=[ARes.tmp 4] }
def ZJ3(h:Int)(w:List Int):List AFrame:=[(ZE5 h w)]
theorem ZyD(h:Int)(w:List Int):Zau tab 95 [AV.int .i64 h,AV.list (.ints .i64 w)]=some (ZE5 h w):=rfl
def ZiJ(l0:List Int)(n1:Int):List AFrame:=[{ fn:=95,N:=21,env:=[(5,AV.row 95010 0),(6,AV.int .i64 n1)],todo:=.code (ACode.gh [] ZEj)::ZH9,defs:=[],rnd:=none,ret:=false,res:=[ARes.tmp 4] }]
def Zhe(l0:List Int)(n1:Int):Zaa:=[(95010,{ base:=0,blks:=[Blk.row 3 1 (.ints .i64 l0)] })]
abbrev Zkj(l0:List Int)(n1:Int):List AFrame×Zaa:=(ZiJ l0 n1,Zhe l0 n1)
def ZCL(A:Ar)(K:KT)(F:FT)(h:Int)(w:List Int):Prop:=rB [decide (hfB h=true∧okw w=true)] (K (Zkj (syL w (Nat.mul 2 (Int.toNat h))) (0)))
theorem ZGT{A:Ar}{K:KT}{F:FT}{M:MT}{h:Int}{w:List Int} :Zal A tab Kc 95 K F M (.run 19 (.hd)) (ZJ3 h w) []=ZCL A K F h w:=by kernel_rfl
def Zei(A:Ar)(K:KT)(F:FT)(l0:List Int)(n1:Int):Prop:=bB (A.lt n1 (A.int (A.len l0))) (rB [Zad (Nat.blt (A.nat n1) (A.len l0)) true,Zad (A.le 0 n1) (Nat.blt (A.nat n1) (A.len l0))] (bB (A.not (A.eq (A.nth l0 (A.nat n1)) 0)) (F (AV.bool false) (none)) (rB [A.inR .i64 (A.add n1 1)] (K (Zkj (l0) (A.add n1 1)))))) (F (AV.bool true) (none))
theorem Zkk{A:Ar}{K:KT}{F:FT}{M:MT}{l0:List Int}{n1:Int} :Zal A tab Kc 95 K F M (.run 9 (.tf (.run 11 (.tf (.run 5 (.fn)) (.run 9 (.hd)))) (.run 6 (.fn)))) (ZiJ l0 n1) (Zhe l0 n1)=Zei A K F l0 n1:=by kernel_rfl
def ZBj(h:Int)(e:List Int):AFrame:={ fn:=45,N:=37,env:=[(0,AV.int .i64 h),(1,AV.list (.ints .i64 e))],todo:=[.code a45.code],defs:=[],rnd:=none,ret:=false,res:=[ARes.tmp 4] }
def ZJG(h:Int)(e:List Int):List AFrame:=[(ZBj h e)]
theorem ZyV(h:Int)(e:List Int):Zau tab 45 [AV.int .i64 h,AV.list (.ints .i64 e)]=some (ZBj h e):=rfl
def ZiS(e:List Int)(n0:Int):List AFrame:=[{ fn:=45,N:=37,env:=[(1,AV.list (.ints .i64 e)),(5,AV.int .i64 n0)],todo:=.code (ACode.gh [] ZCU)::ZF2,defs:=[],rnd:=none,ret:=false,res:=[ARes.tmp 4] }]
def Zhc(e:List Int)(n0:Int):Zaa:=[]
abbrev Zgl(e:List Int)(n0:Int):List AFrame×Zaa:=(ZiS e n0,Zhc e n0)
def ZAq(A:Ar)(K:KT)(F:FT)(h:Int)(e:List Int):Prop:=rB [A.inR .i64 (A.mul 2 h)] (bB (A.lt (A.mul 2 h) (A.int (A.len e))) (F (AV.int .i64 8) (none)) (K (Zgl (e) (0))))
theorem ZGq{A:Ar}{K:KT}{F:FT}{M:MT}{h:Int}{e:List Int} :Zal A tab Kc 45 K F M (.run 13 (.tf (.run 5 (.fn)) (.run 9 (.hd)))) (ZJG h e) []=ZAq A K F h e:=by kernel_rfl
def Zcb(A:Ar)(K:KT)(F:FT)(e:List Int)(n0:Int):Prop:=bB (A.lt n0 (A.int (A.len e))) (rB [Zad (Zad (A.le 0 n0) (Nat.blt (A.nat n0) (A.len e))) true] (bB (A.not (Zao (A.nth e (A.nat n0)) 0 14)) (F (AV.int .i64 6) (none)) (qB [Zad (Zad (A.le 0 (A.sub n0 1)) (Nat.blt (A.nat (A.sub n0 1)) (A.len e))) true,A.inR .i64 (A.sub n0 1),Zad (Zad (A.le 0 n0) (Nat.blt (A.nat n0) (A.len e))) true,A.lt 0 n0] (bB (A.le (A.nth e (A.nat n0)) (A.nth e (A.nat (A.sub n0 1)))) (F (AV.int .i64 9) (none)) (rB [A.inR .i64 (A.add n0 1)] (K (Zgl (e) (A.add n0 1))))) (rB [!A.lt 0 n0] (rB [A.inR .i64 (A.add n0 1)] (K (Zgl (e) (A.add n0 1)))))))) (F (AV.int .i64 0) (none))
theorem ZkI{A:Ar}{K:KT}{F:FT}{M:MT}{e:List Int}{n0:Int} :Zal A tab Kc 45 K F M (.run 9 (.tf (.run 13 (.tf (.run 5 (.fn)) (.run 2 (.tf (.run 1 (.tf (.run 5 (.fn)) (.run 9 (.hd)))) (.run 1 (.fy (.run 9 (.hd)))))))) (.run 6 (.fn)))) (ZiS e n0) (Zhc e n0)=Zcb A K F e n0:=by kernel_rfl
end Go.Proofs.Ytklbmkllepkjcaa
/- Contracts as a list. No condition. -/
namespace Go.Proofs.Ytklbmkllepkjcaa
theorem Zc6{w:List Int}(h:w.length=15):std.sub3 w 0 15=w:=by show(w.drop 0).take 15=w;rw[List.drop_zero,List.take_of_length_le (by omega)]
section
variable {C:Ctx}(hC:C.P=Try.prog){w:List Int}(hw:okw w=true)
include hC hw
theorem S75(h:Int)(hh:1≤h∧h≤3):∀(k j:Nat),(j:Int)+k=2*h→Ev C (Zig w h std ((j+1:Nat):Int) (syL w j)) (Zf4 w h std ((j+1:Nat):Int) (syL w j)) (ZaL 75 (.row 0 0) (some ⟨3,1, .ints .i64 (syL w (2*h.toNat))⟩)):=by
 obtain⟨w1,w2⟩:=okw_iff.1 hw
 intro k
 induction k with
 |zero=>
  intro j hj
  refine tgo hC Zjw Zko ?_
  rw[show 2*h.toNat=j by omega]
  simp[ZgO,show ¬(j:Int)+1≤2*h by omega]
  omega
 |succ k ih=>
  intro j hj
  refine tgo hC Zjw Zko ?_
  have i:=ih (j+1) (by omega)
  have e:=Zc6 w1
  have l:=Zd7 w j
  rw[Zo4]at i
  simp only[ZgO,e]
  simp[hw,w1,l,show(j:Int)+1≤2*h by omega,AV.bx,Zag]at i⊢
  exact⟨by omega,by omega,i⟩
end
theorem Zu2(w:List Int)(h:Int)(hw:okw w=true)(hh:hfB h=true):Zai Try.prog 75 [.agg (.ints .i64 w), .int .i64 h] (.row 0 0) (some ⟨3,1, .ints .i64 (syL w (2*h.toNat))⟩):=by
 obtain⟨w1,w2⟩:=okw_iff.1 hw
 have hh:=of_decide_eq_true hh
 refine start (Zx2 w h) fun C hC=>tgo hC Zjw ZHQ ?_
 have i:=S75 hC hw h hh (2*h.toNat) 0 (by omega)
 simp[ZBF,syL,w1]at i⊢
 exact i
theorem ZFj{h:Int}(e:hfE h=0):1≤h∧h≤3:=by
 unfold hfE Zaf at e
 split at e
 ·rename_i h1;exact of_decide_eq_true h1
 ·cases e
theorem ZE4{l:List Int}{n:Int}(e:elE l n=0):(l.length:Int)=n∧Zcs l 0 15=0:=by
 obtain⟨a,b⟩:=Zmr e
 obtain⟨b,_⟩:=Zmr b
 refine⟨?_,b⟩
 by_cases h:(l.length:Int)=n
 ·exact h
 ·simp[Zaf,h]at a
def isW(h:Int)(w:List Int):Bool:=(syL w (2*h.toNat)).all fun x=>decide (x=0)
section
variable {C:Ctx}(hC:C.P=Try.prog)
include hC
theorem S95(l:List Int)(hl:l.length≤1000):∀(k j:Nat),j+k=l.length→Ev C (ZiJ l j) (Zhe l j) (ZaL 95 (.bool ((l.drop j).all fun x=>decide (x=0))) none):=by
 intro k
 induction k with
 |zero=>
  intro j hj
  refine tgo hC Zjw Zkk ?_
  rw[List.drop_of_length_le (by omega)]
  simp[Zei,show ¬(j:Int)<l.length by omega]
 |succ k ih=>
  intro j hj
  refine tgo hC Zjw Zkk ?_
  have i:=ih (j+1) (by omega)
  have hlt:j<l.length:=by omega
  have hlt2:(j:Int)<l.length:=by omega
  rw[ZeF hlt,List.all_cons]
  by_cases h0:l.getD j 0=0
  ·simp[-List.getD_eq_getElem?_getD,Zei,hlt,hlt2,h0]at i⊢
   exact⟨by omega,i⟩
  ·simp[-List.getD_eq_getElem?_getD,Zei,hlt,hlt2,h0]
end
theorem Zv1(h:Int)(w:List Int)(hh:hfB h=true)(hw:okw w=true):Zai Try.prog 95 [.int .i64 h, .list (.ints .i64 w)] (.bool (isW h w)) none:=by
 refine start (ZyD h w) fun C hC=>tgo hC Zjw ZGT ?_
 have hh2:=of_decide_eq_true hh
 have l:=Zd7 w (2*h.toNat)
 have i:=S95 hC (syL w (2*h.toNat)) (by omega) (syL w (2*h.toNat)).length 0 (by omega)
 rw[List.drop_zero]at i
 simp[ZCL,hh,hw,isW]at i⊢
 exact i
def erP:Int→List Int→Int
 |_,[]=>0
 |p,x::l=>if Zao x 0 14=true then(if p<x then erP x l else 9)else 6
def erE(h:Int)(e:List Int):Int:=if 2*h<(e.length:Int)then 8 else erP (-1) e
section
variable {C:Ctx}(hC:C.P=Try.prog)
include hC
theorem S45(l:List Int)(hl:l.length≤1000):∀(k j:Nat),j+k=l.length→Ev C (ZiS l j) (Zhc l j) (ZaL 45 (.int .i64 (erP (if j=0 then -1 else l.getD (j-1) 0) (l.drop j))) none):=by
 intro k
 induction k with
 |zero=>
  intro j hj
  refine tgo hC Zjw ZkI ?_
  rw[List.drop_of_length_le (by omega),erP]
  simp[Zcb,show ¬(j:Int)<l.length by omega]
 |succ k ih=>
  intro j hj
  refine tgo hC Zjw ZkI ?_
  have i:=ih (j+1) (by omega)
  have hlt:j<l.length:=by omega
  have hlt2:(j:Int)<l.length:=by omega
  rw[ZeF hlt,erP]
  rw[if_neg (by omega),Nat.add_sub_cancel]at i
  cases hw:Zao (l.getD j 0) 0 14 with
  |false=>simp[-List.getD_eq_getElem?_getD,Zcb,hlt,hlt2,hw]
  |true=>
   by_cases h0:j=0
   ·subst h0
    have:=of_decide_eq_true hw
    simp[-List.getD_eq_getElem?_getD,Zcb,hlt,hw,show(0:Int)<l.length by omega,show(-1:Int)<l.getD 0 0 by omega]at i⊢
    exact i
   ·have hj1:(0:Int)<(j:Int):=by omega
    have k1:((j:Int)-1).toNat=j-1:=by omega
    have hlt3:j-1<l.length:=by omega
    rw[if_neg h0]
    by_cases hc:l.getD (j-1) 0<l.getD j 0
    ·simp[-List.getD_eq_getElem?_getD,Zcb,hlt,hlt2,hw,h0,k1,hlt3,hc,show ¬l.getD j 0≤l.getD (j-1) 0 by omega]at i⊢
     refine⟨?_,?_⟩
     ·omega
     ·exact⟨by omega,by omega,by omega,i⟩
    ·simp[-List.getD_eq_getElem?_getD,Zcb,hlt,hlt2,hw,h0,k1,hlt3,hc,show l.getD j 0≤l.getD (j-1) 0 by omega]
     omega
end
theorem Zvm(h:Int)(e:List Int)(hh:hfB h=true):Zai Try.prog 45 [.int .i64 h, .list (.ints .i64 e)] (.int .i64 (erE h e)) none:=by
 refine start (ZyV h e) fun C hC=>tgo hC Zjw ZGq ?_
 have hh2:=of_decide_eq_true hh
 by_cases hl:2*h<(e.length:Int)
 ·simp[ZAq,hl,erE];omega
 ·have i:=S45 hC e (by omega) e.length 0 (by omega)
  simp[ZAq,hl,erE]at i⊢
  exact⟨by omega,i⟩
def k75:Ctr:=⟨75,0,fun _ a=>match a with |[.agg (.ints .i64 w), .int .i64 h]=>some (decide (okw w=true∧hfB h=true), .row 0 0,some ⟨3,1, .ints .i64 (syL w (2*h.toNat))⟩) |_=>none⟩
theorem ZEM:k75.OK Try.prog:=fun pa args r fr h=>by
 simp only[k75]at h
 split at h
 ·simp only[Option.some.injEq,Prod.mk.injEq,decide_eq_true_eq]at h
  obtain⟨h0,rfl,rfl⟩:=h
  exact Zu2 _ _ h0.1 h0.2
 ·cases h
def k95:Ctr:=⟨95,0,fun _ a=>match a with |[.int .i64 h, .list (.ints .i64 w)]=>some (decide (hfB h=true∧okw w=true), .bool (isW h w),none) |_=>none⟩
theorem ZBH:k95.OK Try.prog:=fun pa args r fr h=>by
 simp only[k95]at h
 split at h
 ·simp only[Option.some.injEq,Prod.mk.injEq,decide_eq_true_eq]at h
  obtain⟨h0,rfl,rfl⟩:=h
  exact Zv1 _ _ h0.1 h0.2
 ·cases h
def k45:Ctr:=⟨45,0,fun _ a=>match a with |[.int .i64 h, .list (.ints .i64 e)]=>some (decide (hfB h=true), .int .i64 (erE h e),none) |_=>none⟩
theorem ZAY:k45.OK Try.prog:=fun pa args r fr h=>by
 simp only[k45]at h
 split at h
 ·simp only[Option.some.injEq,Prod.mk.injEq,decide_eq_true_eq]at h
  obtain⟨h0,rfl,rfl⟩:=h
  exact Zvm _ _ h0
 ·cases h
def Kd:List Ctr:=[k75,k95,k45]++Kc
theorem ZHu:Zaz Try.prog Kd:=⟨ZEM,⟨ZBH,⟨ZAY,Zjw⟩⟩⟩
end Go.Proofs.Ytklbmkllepkjcaa
/- Copies are rows of their own again. No condition. -/
namespace Go.Proofs.Ytklbmkllepkjcaa
def Ke:List Ctr:=[k14]++Kd
theorem Zay:Zaz Try.prog Ke:=⟨ZwA,ZHu⟩
end Go.Proofs.Ytklbmkllepkjcaa
