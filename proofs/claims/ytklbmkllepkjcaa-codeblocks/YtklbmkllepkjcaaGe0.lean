/- Paths of functions, printed by the explorer (Gx). No condition. -/
import Derived.Test.YtklbmkllepkjcaaGb
import Derived.KernelRfl
namespace Go.Proofs.Ytklbmkllepkjcaa
set_option maxRecDepth 100000
set_option linter.unusedVariables false
def ZAc(a b:Int):AFrame:={ fn:=18,N:=17,env:=[(0,AV.int .i64 a),(1,AV.int .i64 b)],todo:=[.code a18.code],defs:=[],rnd:=none,ret:=false,res:=[ARes.tmp 4,ARes.tmp 5] }
def ZGM(a b:Int):List AFrame:=[(ZAc a b)]
theorem Zvv(a b:Int):Zat tab 18 [AV.int .i64 a,AV.int .i64 b]=some (ZAc a b):=rfl
def Zvq(A:Ar)(K:KT)(F:FT)(a b:Int):Prop:=rB [decide (List.length [a,b]≤1000000),List.all [AV.int .i64 a,AV.int .i64 b] fun x=>AV.bx x&&Nat.beq (Zaf A x) 1] (bB (A.not (A.eq (ZaU [a,b] 0 15) 0)) (F (AV.tup [AV.int .i64 0,AV.int .i64 (ZaU [a,b] 0 15)]) (none)) (rB [decide (elB a=true∧elB b=true)] (F (AV.tup [AV.int .i64 (gM a b),AV.int .i64 0]) (none))))
theorem ZD2{A:Ar}{K:KT}{F:FT}{M:MT}{a b:Int} :Zam A tab Kb 18 K F M (.run 19 (.tf (.run 7 (.fn)) (.run 10 (.fn)))) (ZGM a b) []=Zvq A K F a b:=by kernel_rfl
def Zz9(n:Int):AFrame:={ fn:=73,N:=6,env:=[(0,AV.int .i64 n)],todo:=[.code a73.code],defs:=[],rnd:=none,ret:=false,res:=[ARes.tmp 2] }
def ZFv(n:Int):List AFrame:=[(Zz9 n)]
theorem ZvC(n:Int):Zat tab 73 [AV.int .i64 n]=some (Zz9 n):=rfl
def ZA3(A:Ar)(K:KT)(F:FT)(n:Int):Prop:=F (AV.int .i64 (ZaM (Zan n 1 3) 2)) (none)
theorem ZD9{A:Ar}{K:KT}{F:FT}{M:MT}{n:Int} :Zam A tab Kb 73 K F M (.run 12 (.fn)) (ZFv n) []=ZA3 A K F n:=by kernel_rfl
def ZA4(xs:List Int)(n:Int):AFrame:={ fn:=74,N:=14,env:=[(0,AV.list (.ints .i64 xs)),(1,AV.int .i64 n)],todo:=[.code a74.code],defs:=[],rnd:=none,ret:=false,res:=[ARes.tmp 4] }
def ZFU(xs:List Int)(n:Int):List AFrame:=[(ZA4 xs n)]
theorem ZwY(xs:List Int)(n:Int):Zat tab 74 [AV.list (.ints .i64 xs),AV.int .i64 n]=some (ZA4 xs n):=rfl
def ZxI(A:Ar)(K:KT)(F:FT)(xs:List Int)(n:Int):Prop:=rB [decide (List.length [ZaM (A.eq (A.int (A.len xs)) n) 10,ZaU xs 0 15]≤1000000),List.all [AV.int .i64 (ZaM (A.eq (A.int (A.len xs)) n) 10),AV.int .i64 (ZaU xs 0 15)] fun x=>AV.bx x&&Nat.beq (Zaf A x) 1,decide (List.length xs≤1000000)] (F (AV.int .i64 (Zaq [ZaM (A.eq (A.int (A.len xs)) n) 10,ZaU xs 0 15])) (none))
theorem ZCr{A:Ar}{K:KT}{F:FT}{M:MT}{xs:List Int}{n:Int} :Zam A tab Kb 74 K F M (.run 19 (.fn)) (ZFU xs n) []=ZxI A K F xs n:=by kernel_rfl
def ZBh(n:Int):AFrame:={ fn:=21,N:=5,env:=[(0,AV.int .i64 n)],todo:=[.code a21.code],defs:=[],rnd:=none,ret:=false,res:=[ARes.tmp 2] }
def ZGQ(n:Int):List AFrame:=[(ZBh n)]
theorem ZwZ(n:Int):Zat tab 21 [AV.int .i64 n]=some (ZBh n):=rfl
def ZyA(A:Ar)(K:KT)(F:FT)(n:Int):Prop:=F (AV.bool (Zan n 0 15)) (none)
theorem ZB1{A:Ar}{K:KT}{F:FT}{M:MT}{n:Int} :Zam A tab Kb 21 K F M (.run 11 (.fn)) (ZGQ n) []=ZyA A K F n:=by kernel_rfl
def ZAO(n:Int):AFrame:={ fn:=23,N:=6,env:=[(0,AV.int .i64 n)],todo:=[.code a23.code],defs:=[],rnd:=none,ret:=false,res:=[ARes.tmp 2] }
def ZGp(n:Int):List AFrame:=[(ZAO n)]
theorem Zwb(n:Int):Zat tab 23 [AV.int .i64 n]=some (ZAO n):=rfl
def ZyY(A:Ar)(K:KT)(F:FT)(n:Int):Prop:=bB (A.not (Zan n 1 3)) (F (AV.int .i64 2) (none)) (F (AV.int .i64 0) (none))
theorem ZDH{A:Ar}{K:KT}{F:FT}{M:MT}{n:Int} :Zam A tab Kb 23 K F M (.run 11 (.tf (.run 5 (.fn)) (.run 6 (.fn)))) (ZGp n) []=ZyY A K F n:=by kernel_rfl
def ZzT(xs:List Int):AFrame:={ fn:=24,N:=8,env:=[(0,AV.list (.ints .i64 xs))],todo:=[.code a24.code],defs:=[],rnd:=none,ret:=false,res:=[ARes.tmp 2] }
def ZGB(xs:List Int):List AFrame:=[(ZzT xs)]
theorem ZwP(xs:List Int):Zat tab 24 [AV.list (.ints .i64 xs)]=some (ZzT xs):=rfl
def ZuL(A:Ar)(K:KT)(F:FT)(xs:List Int):Prop:=bB (A.not (A.eq (A.int (A.len xs)) 15)) (F (AV.int .i64 10) (none)) (rB [decide (List.length xs≤1000000)] (F (AV.int .i64 (ZaU xs 0 15)) (none)))
theorem ZCb{A:Ar}{K:KT}{F:FT}{M:MT}{xs:List Int} :Zam A tab Kb 24 K F M (.run 11 (.tf (.run 5 (.fn)) (.run 8 (.fn)))) (ZGB xs) []=ZuL A K F xs:=by kernel_rfl
def ZtN(w:List Int)(j:Int):AFrame:={ fn:=112,N:=24,env:=[(0,AV.agg (.ints .i64 w)),(1,AV.int .i64 j)],todo:=[.code a112.code],defs:=[],rnd:=none,ret:=false,res:=[ARes.tmp 4] }
def ZCT(w:List Int)(j:Int):List AFrame:=[(ZtN w j)]
theorem Zsv(w:List Int)(j:Int):Zat tab 112 [AV.agg (.ints .i64 w),AV.int .i64 j]=some (ZtN w j):=rfl
def Zef(j:Int)(l0:List Int)(n1 n2:Int):List AFrame:=[{ fn:=112,N:=24,env:=[(1,AV.int .i64 j),(5,AV.int .i64 n1),(8,AV.agg (.ints .i64 l0)),(9,AV.int .i64 n2)],todo:=.code (ACode.gh [] Zul)::ZA9,defs:=[],rnd:=none,ret:=false,res:=[ARes.tmp 4] }]
def ZcZ(j:Int)(l0:List Int)(n1 n2:Int):Zaa:=[]
abbrev Zgj(j:Int)(l0:List Int)(n1 n2:Int):List AFrame×Zaa:=(Zef j l0 n1 n2,ZcZ j l0 n1 n2)
def Zuq(A:Ar)(K:KT)(F:FT)(w:List Int)(j:Int):Prop:=rB [Nat.ble 15 (A.len w),Nat.blt 0 (A.len w)] (K (Zgj (j) (A.sub3 w 0 15) (0) (0)))
theorem ZAz{A:Ar}{K:KT}{F:FT}{M:MT}{w:List Int}{j:Int} :Zam A tab Kb 112 K F M (.run 18 (.hd)) (ZCT w j) []=Zuq A K F w j:=by kernel_rfl
def Zc1(A:Ar)(K:KT)(F:FT)(j:Int)(l0:List Int)(n1 n2:Int):Prop:=bB (A.lt n2 15) (rB [A.inR .i64 (A.add n2 1),decide (elB (A.nth l0 (A.nat n2))=true∧elB (gP (A.mul j (A.sub 14 n2)))=true),decide (0≤A.mul j (A.sub 14 n2)),A.inR .i64 (A.mul j (A.sub 14 n2)),A.inR .i64 (A.sub 14 n2),Zae (Zae (A.le 0 n2) (A.lt n2 (A.int 15))) (Nat.blt (A.nat n2) (A.len l0))] (K (Zgj (j) (l0) (A.bits Go.BinOp.xor .i64 n1 (gM (A.nth l0 (A.nat n2)) (gP (A.mul j (A.sub 14 n2))))) (A.add n2 1)))) (F (AV.int .i64 n1) (none))
theorem Zgb{A:Ar}{K:KT}{F:FT}{M:MT}{j:Int}{l0:List Int}{n1 n2:Int} :Zam A tab Kb 112 K F M (.run 6 (.tf (.run 29 (.hd)) (.run 7 (.fn)))) (Zef j l0 n1 n2) (ZcZ j l0 n1 n2)=Zc1 A K F j l0 n1 n2:=by kernel_rfl
def ZxF(h:Int)(w:List Int):AFrame:={ fn:=25,N:=42,env:=[(0,AV.int .i64 h),(1,AV.list (.ints .i64 w))],todo:=[.code a25.code],defs:=[],rnd:=none,ret:=false,res:=[ARes.tmp 4] }
def ZGE(h:Int)(w:List Int):List AFrame:=[(ZxF h w)]
theorem Zu5(h:Int)(w:List Int):Zat tab 25 [AV.int .i64 h,AV.list (.ints .i64 w)]=some (ZxF h w):=rfl
def ZeI(h:Int)(w:List Int)(n0:Int)(l1:List Int):List AFrame:=[{ fn:=25,N:=42,env:=[(0,AV.int .i64 h),(1,AV.list (.ints .i64 w)),(5,AV.row 25041 0),(6,AV.int .i64 n0)],todo:=.code (ACode.gh [] Zzj)::ZCA,defs:=[],rnd:=none,ret:=false,res:=[ARes.tmp 4] }]
def ZdG(h:Int)(w:List Int)(n0:Int)(l1:List Int):Zaa:=[(25041,{ base:=0,blks:=[Blk.row 3 1 (.ints .i64 l1)] })]
abbrev ZiC(h:Int)(w:List Int)(n0:Int)(l1:List Int):List AFrame×Zaa:=(ZeI h w n0 l1,ZdG h w n0 l1)
def ZhB(h:Int)(w:List Int)(n0:Int)(l1:List Int)(n2 n3:Int):List AFrame:=[{ fn:=25,N:=42,env:=[(0,AV.int .i64 h),(1,AV.list (.ints .i64 w)),(5,AV.row 25041 0),(6,AV.int .i64 n0),(7,AV.int .i64 n2),(8,AV.int .i64 n3)],todo:=.code (ACode.gh [] ZAJ)::ZDN,defs:=[],rnd:=none,ret:=false,res:=[ARes.tmp 4] }]
def ZfI(h:Int)(w:List Int)(n0:Int)(l1:List Int)(n2 n3:Int):Zaa:=[(25041,{ base:=0,blks:=[Blk.row 3 1 (.ints .i64 l1)] })]
abbrev ZiK(h:Int)(w:List Int)(n0:Int)(l1:List Int)(n2 n3:Int):List AFrame×Zaa:=(ZhB h w n0 l1 n2 n3,ZfI h w n0 l1 n2 n3)
def ZyN(A:Ar)(K:KT)(F:FT)(h:Int)(w:List Int):Prop:=K (ZiC (h) (w) (1) ([]))
theorem ZB3{A:Ar}{K:KT}{F:FT}{M:MT}{h:Int}{w:List Int} :Zam A tab Kb 25 K F M (.run 17 (.hd)) (ZGE h w) []=ZyN A K F h w:=by kernel_rfl
def ZfM(A:Ar)(K:KT)(F:FT)(h:Int)(w:List Int)(n0:Int)(l1:List Int):Prop:=rB [A.inR .i64 (A.mul 2 h)] (bB (A.le n0 (A.mul 2 h)) (K (ZiK (h) (w) (n0) (l1) (0) (0))) (F (AV.row 0 0) (some { e:=3,sz:=1,r:=.ints .i64 l1 })))
theorem Zjt{A:Ar}{K:KT}{F:FT}{M:MT}{h:Int}{w:List Int}{n0:Int}{l1:List Int} :Zam A tab Kb 25 K F M (.run 9 (.tf (.run 15 (.hd)) (.run 7 (.fn)))) (ZeI h w n0 l1) (ZdG h w n0 l1)=ZfM A K F h w n0 l1:=by kernel_rfl
def ZfW(A:Ar)(K:KT)(F:FT)(h:Int)(w:List Int)(n0:Int)(l1:List Int)(n2 n3:Int):Prop:=bB (A.lt n3 (A.int (A.len w))) (rB [A.inR .i64 (A.add n3 1),decide (elB (A.nth w (A.nat n3))=true∧elB (gP (A.rem (A.mul n0 (A.sub (A.sub (A.int (A.len w)) 1) n3)) 15))=true),decide (0≤A.rem (A.mul n0 (A.sub (A.sub (A.int (A.len w)) 1) n3)) 15∧A.rem (A.mul n0 (A.sub (A.sub (A.int (A.len w)) 1) n3)) 15≤1000),A.not (A.eq 15 0),A.inR .i64 (A.mul n0 (A.sub (A.sub (A.int (A.len w)) 1) n3)),A.inR .i64 (A.sub (A.sub (A.int (A.len w)) 1) n3),A.inR .i64 (A.sub (A.int (A.len w)) 1),Zae (Zae (A.le 0 n3) (Nat.blt (A.nat n3) (A.len w))) true] (K (ZiK (h) (w) (n0) (l1) (A.bits Go.BinOp.xor .i64 n2 (gM (A.nth w (A.nat n3)) (gP (A.rem (A.mul n0 (A.sub (A.sub (A.int (A.len w)) 1) n3)) 15)))) (A.add n3 1)))) (rB [A.inR .i64 (A.add n0 1),Nat.ble (A.len l1+A.len [n2]) 4294967296,List.all [AV.int .i64 n2] fun x=>AV.bx x&&Nat.beq (Zaf A x) 1] (K (ZiC (h) (w) (A.add n0 1) (A.app l1 [n2]))))
theorem Zi2{A:Ar}{K:KT}{F:FT}{M:MT}{h:Int}{w:List Int}{n0:Int}{l1:List Int}{n2 n3:Int} :Zam A tab Kb 25 K F M (.run 9 (.tf (.run 12 (.hd)) (.run 16 (.hd)))) (ZhB h w n0 l1 n2 n3) (ZfI h w n0 l1 n2 n3)=ZfW A K F h w n0 l1 n2 n3:=by kernel_rfl
end Go.Proofs.Ytklbmkllepkjcaa
/- Contracts as a list. No condition. -/
namespace Go.Proofs.Ytklbmkllepkjcaa
def ZoR(j:Nat):Nat→List Nat→Nat
 |_,[]=>0
 |i,a::l=>ZaB a (Zb1 (j*(14-i))) ^^^ ZoR j (i+1) l
def wdN(w:List Int):List Nat:=w.map Int.toNat
def syI(w:List Int)(j:Nat):Int:=((ZoR j 0 (wdN w):Nat):Int)
def okw(w:List Int):Bool:=decide (w.length=15)&&decide (ZaU w 0 15=0)
theorem okw_iff{w:List Int} :okw w=true↔w.length=15∧ZaU w 0 15=0:=by
 unfold okw;rw[Bool.and_eq_true,decide_eq_true_eq,decide_eq_true_eq]
theorem ZnP{w:List Int}(h:ZaU w 0 15=0)(i:Nat):elB (w.getD i 0)=true:=decide_eq_true (by have:=Zyv h (by omega) i;omega)
theorem ZEa{w:List Int}(h:ZaU w 0 15=0):∀x∈wdN w,x<16:=fun x hx=>by
 obtain⟨y,hy,rfl⟩:=List.mem_map.1 hx
 unfold ZaU at h
 split at h
 ·rename_i hall
  have:=of_decide_eq_true (List.all_eq_true.1 hall y hy)
  omega
 ·cases h
theorem Zqx(w:List Int):(wdN w).length=w.length:=by simp[wdN]
theorem ZpX{w:List Int}{i:Nat}(h:i<w.length):(wdN w).drop i=(w.getD i 0).toNat::(wdN w).drop (i+1):=by
 rw[List.drop_eq_getElem_cons (by rw[Zqx];exact h)]
 unfold wdN
 rw[List.getElem_map,List.getD_eq_getElem?_getD,List.getElem?_eq_getElem h];rfl
theorem ZtZ(j:Nat):∀(l:List Nat) (i:Nat),(∀x∈l,x<16)→ZoR j i l<16
 |[],_,_=>by simp[ZoR]
 |a::l,i,h=>Zgx (ZdO (h a List.mem_cons_self) (Zeq _)) (ZtZ j l (i+1) fun x hx=>h x (List.mem_cons_of_mem _ hx))
theorem ZyD(n:Int):elB (gP n)=true:=Zbn (Zeq _)
def prE(a b:Int):Int:=ZaU [a,b] 0 15
def prI(a b:Int):Int:=if prE a b=0 then gM a b else 0
theorem Ztw(a b:Int):Zah Try.prog 18 [.int .i64 a, .int .i64 b] (.tup [.int .i64 (prI a b), .int .i64 (prE a b)]) none:=
 start (Zvv a b) fun C hC=>tgo hC Zed ZD2 (by
  have e:ZaU [a,b] 0 15=prE a b:=rfl
  by_cases h:prE a b=0
  ·have h1:=ZnP h 0
   have h2:=ZnP h 1
   simp only[List.getD_cons_zero,List.getD_cons_succ]at h1 h2
   simp[Zvq,e,h,h1,h2,prI,AV.bx,Zaf]
  ·simp[Zvq,e,h,prI,AV.bx,Zaf])
def hfE(h:Int):Int:=ZaM (Zan h 1 3) 2
theorem Zqu(h:Int):Zah Try.prog 73 [.int .i64 h] (.int .i64 (hfE h)) none:=
 start (ZvC h) fun C hC=>tgo hC Zed ZD9 (by simp[ZA3,hfE])
theorem Zo5(h:Int):Zah Try.prog 23 [.int .i64 h] (.int .i64 (hfE h)) none:=
 start (Zwb h) fun C hC=>tgo hC Zed ZDH (by cases e:Zan h 1 3<;>simp[ZyY,hfE,ZaM,e])
def elE(l:List Int)(n:Int):Int:=Zaq [ZaM (decide ((l.length:Int)=n)) 10,ZaU l 0 15]
theorem ZsV(l:List Int)(n:Int)(hl:l.length≤1000000):Zah Try.prog 74 [.list (.ints .i64 l), .int .i64 n] (.int .i64 (elE l n)) none:=
 start (ZwY l n) fun C hC=>tgo hC Zed ZCr (by simp[ZxI,elE,hl,AV.bx,Zaf])
theorem ZsH(n:Int):Zah Try.prog 21 [.int .i64 n] (.bool (Zan n 0 15)) none:=
 start (ZwZ n) fun C hC=>tgo hC Zed ZB1 (by simp[ZyA])
theorem Zr8(l:List Int):Zah Try.prog 24 [.list (.ints .i64 l)] (.int .i64 (elE l 15)) none:=
 start (ZwP l) fun C hC=>tgo hC Zed ZCb (by
  by_cases h:l.length=15
  ·have e:elE l 15=ZaU l 0 15:=by
    unfold elE ZaM
    simp only[h,Zaq]
    by_cases h0:ZaU l 0 15=0<;>simp[h0]
   simp[ZuL,e,h]
  ·have h':¬(l.length:Int)=15:=by omega
   have e:elE l 15=10:=by simp[elE,ZaM,h',Zaq]
   simp[ZuL,e,h'])
def syL(w:List Int)(n:Nat):List Int:=(List.range n).map fun i=>syI w (i+1)
theorem Zdd(w:List Int)(n:Nat):(syL w n).length=n:=by simp[syL]
theorem ZjZ(w:List Int)(n:Nat):syL w (n+1)=syL w n++[syI w (n+1)]:=by unfold syL;rw[List.range_succ,List.map_append];rfl
section
variable {C:Ctx}(hC:C.P=Try.prog){w:List Int}(hw:w.length=15)(hr:ZaU w 0 15=0)
include hC hw hr
theorem ZFA(j:Nat)(hj:j≤1000):∀(k i x:Nat),i+k=15→x<16→Ev C (Zef j w x i) (ZcZ j w x i) (Za9 112 (.int .i64 ((x ^^^ ZoR j i ((wdN w).drop i):Nat):Int)) none):=by
 intro k
 induction k with
 |zero=>
  intro i x hi hx
  refine tgo hC Zed Zgb ?_
  rw[List.drop_of_length_le (by rw[Zqx];omega),ZoR,Nat.xor_zero]
  have h15:i=15:=by omega
  subst h15
  simp[Zc1]
 |succ k ih=>
  intro i x hi hx
  refine tgo hC Zed Zgb ?_
  have e0:=ZnP hr i
  obtain⟨a,ha,ha16⟩:=Zdb e0
  have m0:(j:Int)*(14-(i:Int))=((j*(14-i):Nat):Int):=by rw[Int.natCast_mul];congr 1;omega
  have m1:j*(14-i)≤14000:=by
   have:=Nat.mul_le_mul hj (show 14-i≤14 by omega);omega
  have b1:0≤(j:Int)*(14-(i:Int))∧(j:Int)*(14-(i:Int))≤14000:=by rw[m0];omega
  have e1:gM (w.getD i 0) (gP ((j:Int)*(14-(i:Int))))=((ZaB a (Zb1 (j*(14-i))):Nat):Int):=by rw[m0,ha];rfl
  have l1:=ZdO ha16 (Zeq (j*(14-i)))
  have e2:=Zb6 (r:=x) (k:=ZaB a (Zb1 (j*(14-i)))) (by omega) (by omega)
  have i':=ih (i+1) (x ^^^ ZaB a (Zb1 (j*(14-i)))) (by omega) (Zgx hx l1)
  rw[ZpX (by omega),ZoR,ha,Int.toNat_natCast,←Nat.xor_assoc]
  have e3:=ZyD ((j:Int)*(14-(i:Int)))
  have hi15:(i:Int)<15:=by omega
  have hi2:i<15:=by omega
  simp only[Zc1,Zp3,ZoE,ZbY,Zbh,Int.toNat_natCast,e1,e2,e3,e0]
  simp[hi15,hi2,hw]at i'⊢
  refine⟨?_,i'⟩
  exact⟨by omega,decide_eq_true b1.1,by omega,by omega⟩
theorem ZGc(h:Int)(j:Nat)(hj:j≤6)(l:List Int)(hl:l.length≤1000)(r:AV)(fr:Option Fresh)
 (hn:Ev C (ZeI h w ((j+1:Nat):Int) (l++[syI w j])) (ZdG h w ((j+1:Nat):Int) (l++[syI w j])) (Za9 25 r fr)):
 ∀(k i x:Nat),i+k=15→x<16→x ^^^ ZoR j i ((wdN w).drop i)=ZoR j 0 (wdN w)→Ev C (ZhB h w j l x i) (ZfI h w j l x i) (Za9 25 r fr):=by
 intro k
 induction k with
 |zero=>
  intro i x hi hx he
  refine tgo hC Zed Zi2 ?_
  rw[List.drop_of_length_le (by rw[Zqx];omega),ZoR,Nat.xor_zero]at he
  subst he
  have h15:i=15:=by omega
  subst h15
  unfold syI at hn
  simp[ZfW,hw,AV.bx,Zaf]at hn⊢
  exact⟨by omega,hn⟩
 |succ k ih=>
  intro i x hi hx he
  refine tgo hC Zed Zi2 ?_
  have e0:=ZnP hr i
  obtain⟨a,ha,ha16⟩:=Zdb e0
  have m1:j*(14-i)≤84:=by
   have:=Nat.mul_le_mul hj (show 14-i≤14 by omega);omega
  have m0:((j*(14-i):Nat):Int).tmod 15=((j*(14-i)%15:Nat):Int):=rfl
  have m2:(j:Int)*((w.length:Int)-1-(i:Int))=((j*(14-i):Nat):Int):=by rw[Int.natCast_mul];congr 1;omega
  have e1:gM (w.getD i 0) (gP ((j*(14-i)%15:Nat):Int))=((ZaB a (Zb1 (j*(14-i))):Nat):Int):=by rw[ZmZ (j*(14-i)),ha];rfl
  have l1:=ZdO ha16 (Zeq (j*(14-i)))
  have e2:=Zb6 (r:=x) (k:=ZaB a (Zb1 (j*(14-i)))) (by omega) (by omega)
  rw[ZpX (by omega),ZoR,ha,Int.toNat_natCast,←Nat.xor_assoc]at he
  have i':=ih (i+1) (x ^^^ ZaB a (Zb1 (j*(14-i)))) (by omega) (Zgx hx l1) he
  have e3:=ZyD ((j*(14-i)%15:Nat):Int)
  have hi15:(i:Int)<15:=by omega
  have hi2:i<15:=by omega
  simp only[ZfW,Zp3,ZoE,ZbY,Zbh,ZvE,ZnZ,ZcQ,Int.toNat_natCast,m0,m2,e1,e2,e3,e0]
  simp[hi15,hi2,hw]at i'⊢
  refine⟨?_,i'⟩
  omega
theorem ZGJ(h:Int)(hh:1≤h∧h≤3):∀(k j:Nat),(j:Int)+k=2*h→Ev C (ZeI h w ((j+1:Nat):Int) (syL w j)) (ZdG h w ((j+1:Nat):Int) (syL w j)) (Za9 25 (.row 0 0) (some ⟨3,1, .ints .i64 (syL w (2*h.toNat))⟩)):=by
 intro k
 induction k with
 |zero=>
  intro j hj
  refine tgo hC Zed Zjt ?_
  rw[show 2*h.toNat=j by omega]
  simp[ZfM,show ¬(j:Int)+1≤2*h by omega]
  omega
 |succ k ih=>
  intro j hj
  refine tgo hC Zed Zjt ?_
  have i:=ih (j+1) (by omega)
  rw[ZjZ]at i
  have i2:=ZGc hC hw hr h (j+1) (by omega) (syL w j) (by rw[Zdd];omega) _ _ i 15 0 0 (by omega) (by omega) (by rw[List.drop_zero,Nat.zero_xor])
  simp[ZfM,show(j:Int)+1≤2*h by omega]at i2⊢
  exact⟨by omega,i2⟩
end
def hfB(h:Int):Bool:=decide (1≤h∧h≤3)
theorem Zsa(h:Int)(w:List Int)(hh:hfB h=true)(hw:okw w=true):Zah Try.prog 25 [.int .i64 h, .list (.ints .i64 w)] (.row 0 0) (some ⟨3,1, .ints .i64 (syL w (2*h.toNat))⟩):=by
 obtain⟨w1,w2⟩:=okw_iff.1 hw
 have hh:=of_decide_eq_true hh
 refine start (Zu5 h w) fun C hC=>tgo hC Zed ZB3 ?_
 have i:=ZGJ hC w1 w2 h hh (2*h.toNat) 0 (by omega)
 simp[ZyN,syL]at i⊢
 exact i
theorem Zpl(w:List Int)(j:Int)(hw:okw w=true)(hj:0≤j∧j≤1000):Zah Try.prog 112 [.agg (.ints .i64 w), .int .i64 j] (.int .i64 (syI w j.toNat)) none:=by
 obtain⟨w1,w2⟩:=okw_iff.1 hw
 obtain⟨n,rfl⟩:=Int.eq_ofNat_of_zero_le hj.1
 refine start (Zsv w n) fun C hC=>tgo hC Zed ZAz ?_
 have i:=ZFA hC w1 w2 n (by omega) 15 0 0 (by omega) (by omega)
 have e:std.sub3 w 0 15=w:=by show(w.drop 0).take 15=w;rw[List.drop_zero,List.take_of_length_le (by omega)]
 rw[List.drop_zero,Nat.zero_xor]at i
 simp only[Zuq,e]
 simp[w1,syI]at i⊢
 exact i
def k18:Ctr:=⟨18,0,fun _ a=>match a with |[.int .i64 a, .int .i64 b]=>some (true, .tup [.int .i64 (prI a b), .int .i64 (prE a b)],none) |_=>none⟩
theorem Zxz:k18.OK Try.prog:=fun pa args r fr h=>by
 simp only[k18]at h
 split at h
 ·cases h
  exact Ztw _ _
 ·cases h
def k73:Ctr:=⟨73,0,fun _ a=>match a with |[.int .i64 h]=>some (true, .int .i64 (hfE h),none) |_=>none⟩
theorem Zz0:k73.OK Try.prog:=fun pa args r fr h=>by
 simp only[k73]at h
 split at h
 ·cases h
  exact Zqu _
 ·cases h
def k23:Ctr:=⟨23,0,fun _ a=>match a with |[.int .i64 h]=>some (true, .int .i64 (hfE h),none) |_=>none⟩
theorem ZAY:k23.OK Try.prog:=fun pa args r fr h=>by
 simp only[k23]at h
 split at h
 ·cases h
  exact Zo5 _
 ·cases h
def k74:Ctr:=⟨74,0,fun _ a=>match a with |[.list (.ints .i64 l), .int .i64 n]=>some (decide (l.length≤1000000), .int .i64 (elE l n),none) |_=>none⟩
theorem ZA1:k74.OK Try.prog:=fun pa args r fr h=>by
 simp only[k74]at h
 split at h
 ·simp only[Option.some.injEq,Prod.mk.injEq,decide_eq_true_eq]at h
  obtain⟨h0,rfl,rfl⟩:=h
  exact ZsV _ _ h0
 ·cases h
def k21:Ctr:=⟨21,0,fun _ a=>match a with |[.int .i64 n]=>some (true, .bool (Zan n 0 15),none) |_=>none⟩
theorem Zzi:k21.OK Try.prog:=fun pa args r fr h=>by
 simp only[k21]at h
 split at h
 ·cases h
  exact ZsH _
 ·cases h
def k24:Ctr:=⟨24,0,fun _ a=>match a with |[.list (.ints .i64 l)]=>some (true, .int .i64 (elE l 15),none) |_=>none⟩
theorem Zyy:k24.OK Try.prog:=fun pa args r fr h=>by
 simp only[k24]at h
 split at h
 ·cases h
  exact Zr8 _
 ·cases h
def k25:Ctr:=⟨25,0,fun _ a=>match a with |[.int .i64 h, .list (.ints .i64 w)]=>some (decide (hfB h=true∧okw w=true), .row 0 0,some ⟨3,1, .ints .i64 (syL w (2*h.toNat))⟩) |_=>none⟩
theorem ZBp:k25.OK Try.prog:=fun pa args r fr h=>by
 simp only[k25]at h
 split at h
 ·simp only[Option.some.injEq,Prod.mk.injEq,decide_eq_true_eq]at h
  obtain⟨h0,rfl,rfl⟩:=h
  exact Zsa _ _ h0.1 h0.2
 ·cases h
def k112:Ctr:=⟨112,0,fun _ a=>match a with |[.agg (.ints .i64 w), .int .i64 j]=>some (decide (okw w=true∧0≤j∧j≤1000), .int .i64 (syI w j.toNat),none) |_=>none⟩
theorem Zwq:k112.OK Try.prog:=fun pa args r fr h=>by
 simp only[k112]at h
 split at h
 ·simp only[Option.some.injEq,Prod.mk.injEq,decide_eq_true_eq]at h
  obtain⟨h0,rfl,rfl⟩:=h
  exact Zpl _ _ h0.1 h0.2
 ·cases h
def Kc:List Ctr:=[k18,k73,k23,k74,k21,k24,k25,k112]++Kb
theorem Zh4:Zaz Try.prog Kc:=⟨Zxz,⟨Zz0,⟨ZAY,⟨ZA1,⟨Zzi,⟨Zyy,⟨ZBp,⟨Zwq,Zed⟩⟩⟩⟩⟩⟩⟩⟩
end Go.Proofs.Ytklbmkllepkjcaa
/- Paths of functions, printed by the explorer (Gx). No condition. -/
namespace Go.Proofs.Ytklbmkllepkjcaa
set_option maxRecDepth 100000
set_option linter.unusedVariables false
def Zxl(w:List Int)(h:Int):AFrame:={ fn:=75,N:=20,env:=[(0,AV.agg (.ints .i64 w)),(1,AV.int .i64 h)],todo:=[.code a75.code],defs:=[],rnd:=none,ret:=false,res:=[ARes.tmp 4] }
def ZGW(w:List Int)(h:Int):List AFrame:=[(Zxl w h)]
theorem Zw9(w:List Int)(h:Int):Zat tab 75 [AV.agg (.ints .i64 w),AV.int .i64 h]=some (Zxl w h):=rfl
def ZhP(w:List Int)(h:Int)(A:Ar)(n0:Int)(l1:List Int):List AFrame:=[{ fn:=75,N:=20,env:=[(1,AV.int .i64 h),(2,AV.ptr 75003 0 0 0),(5,AV.row 75019 0),(6,AV.int .i64 n0)],todo:=.code (ACode.gh [] ZwE)::ZBq,defs:=[],rnd:=none,ret:=false,res:=[ARes.tmp 4] }]
def ZfV(w:List Int)(h:Int)(A:Ar)(n0:Int)(l1:List Int):Zaa:=[(75003,{ base:=0,blks:=[Blk.row 107 (A.len w) (Row.gen [.agg (.ints .i64 w)])] }),(75019,{ base:=0,blks:=[Blk.row 3 1 (.ints .i64 l1)] })]
abbrev Zjm(w:List Int)(h:Int)(A:Ar)(n0:Int)(l1:List Int):List AFrame×Zaa:=(ZhP w h A n0 l1,ZfV w h A n0 l1)
def Zz1(A:Ar)(K:KT)(F:FT)(w:List Int)(h:Int):Prop:=rB [Nat.blt 0 (A.len w)] (K (Zjm (w) (h) (A) (1) ([])))
theorem ZDx{A:Ar}{K:KT}{F:FT}{M:MT}{w:List Int}{h:Int} :Zam A tab Kc 75 K F M (.run 18 (.hd)) (ZGW w h) []=Zz1 A K F w h:=by kernel_rfl
def ZfJ(A:Ar)(K:KT)(F:FT)(w:List Int)(h n0:Int)(l1:List Int):Prop:=rB [A.inR .i64 (A.mul 2 h)] (bB (A.le n0 (A.mul 2 h)) (rB [A.inR .i64 (A.add n0 1),Nat.ble (A.len l1+A.len [syI (A.sub3 w 0 15) (Int.toNat n0)]) 4294967296,List.all [AV.int .i64 (syI (A.sub3 w 0 15) (Int.toNat n0))] fun x=>AV.bx x&&Nat.beq (Zaf A x) 1,decide (okw (A.sub3 w 0 15)=true∧0≤n0∧n0≤1000),Nat.ble 15 (A.len w)] (K (Zjm (w) (h) (A) (A.add n0 1) (A.app l1 [syI (A.sub3 w 0 15) (Int.toNat n0)])))) (F (AV.row 0 0) (some { e:=3,sz:=1,r:=.ints .i64 l1 })))
theorem Zja{A:Ar}{K:KT}{F:FT}{M:MT}{w:List Int}{h n0:Int}{l1:List Int} :Zam A tab Kc 75 K F M (.run 9 (.tf (.run 20 (.hd)) (.run 7 (.fn)))) (ZhP w h A n0 l1) (ZfV w h A n0 l1)=ZfJ A K F w h n0 l1:=by kernel_rfl
def ZAG(h:Int)(w:List Int):AFrame:={ fn:=19,N:=21,env:=[(0,AV.int .i64 h),(1,AV.list (.ints .i64 w))],todo:=[.code a19.code],defs:=[],rnd:=none,ret:=false,res:=[ARes.tmp 4,ARes.tmp 5] }
def ZF2(h:Int)(w:List Int):List AFrame:=[(ZAG h w)]
theorem Zu7(h:Int)(w:List Int):Zat tab 19 [AV.int .i64 h,AV.list (.ints .i64 w)]=some (ZAG h w):=rfl
def ZhX(h:Int)(w:List Int)(A:Ar)(n0 n1:Int)(b2:Bool)(l3 l4 l5:List Int)(n6:Int)(l7:List Int):List AFrame:=[{ fn:=75,N:=20,env:=[(1,AV.int .i64 h),(2,AV.ptr 75003 0 0 0),(5,AV.row 75019 0),(6,AV.int .i64 n6)],todo:=.code (ACode.gh [] ZwE)::ZBq,defs:=[],rnd:=none,ret:=false,res:=[ARes.tmp 4] },{ fn:=19,N:=21,env:=[(0,AV.int .i64 h),(1,AV.list (.ints .i64 w)),(6,AV.int .i64 n0),(13,AV.int .i64 n1),(14,AV.bool b2),(16,AV.list (.ints .i64 w)),(17,AV.eptr (AV.agg (.ints .i64 l3)) 0),(18,AV.agg (.ints .i64 l4)),(19,AV.int .i64 h)],todo:=[AItem.inReg [oN 20 (OpK.ncall true 19021 75 [Opd.t 18,Opd.t 19]),mV 4 20,oN 5 (OpK.mov (cI 0))], .code ACode.ret],defs:=[],rnd:=none,ret:=false,res:=[ARes.tmp 4,ARes.tmp 5] }]
def Zfx(h:Int)(w:List Int)(A:Ar)(n0 n1:Int)(b2:Bool)(l3 l4 l5:List Int)(n6:Int)(l7:List Int):Zaa:=[(75003,{ base:=0,blks:=[Blk.row 107 (A.len (A.sub3 (A.sub3 w 0 15) 0 15)) (Row.gen [.agg (.ints .i64 l5)])] }),(75019,{ base:=0,blks:=[Blk.row 3 1 (.ints .i64 l7)] })]
abbrev ZiQ(h:Int)(w:List Int)(A:Ar)(n0 n1:Int)(b2:Bool)(l3 l4 l5:List Int)(n6:Int)(l7:List Int):List AFrame×Zaa:=(ZhX h w A n0 n1 b2 l3 l4 l5 n6 l7,Zfx h w A n0 n1 b2 l3 l4 l5 n6 l7)
def Zvo(A:Ar)(K:KT)(F:FT)(h:Int)(w:List Int):Prop:=rB [decide (List.length [hfE h,elE w 15]≤1000000),List.all [AV.int .i64 (hfE h),AV.int .i64 (elE w 15)] fun x=>AV.bx x&&Nat.beq (Zaf A x) 1,decide (List.length w≤1000000)] (bB (A.not (A.eq (Zaq [hfE h,elE w 15]) 0)) (F (AV.tup [AV.nils,AV.int .i64 (Zaq [hfE h,elE w 15])]) (none)) (rB [Nat.blt 0 (A.len (A.sub3 (A.sub3 w 0 15) 0 15)),Nat.ble 15 (A.len (A.sub3 w 0 15)),Zae (Nat.ble 15 (A.len w)) true] (K (ZiQ (h) (w) (A) (Zaq [hfE h,elE w 15]) (Zaq [hfE h,elE w 15]) (A.not (A.eq (Zaq [hfE h,elE w 15]) 0)) (A.sub3 w 0 15) (A.sub3 (A.sub3 w 0 15) 0 15) (A.sub3 (A.sub3 w 0 15) 0 15) (1) ([])))))
theorem ZC6{A:Ar}{K:KT}{F:FT}{M:MT}{h:Int}{w:List Int} :Zam A tab Kc 19 K F M (.run 22 (.tf (.run 7 (.fn)) (.run 26 (.hd)))) (ZF2 h w) []=Zvo A K F h w:=by kernel_rfl
def Ze4(A:Ar)(K:KT)(F:FT)(h:Int)(w:List Int)(n0 n1:Int)(b2:Bool)(l3 l4 l5:List Int)(n6:Int)(l7:List Int):Prop:=rB [A.inR .i64 (A.mul 2 h)] (bB (A.le n6 (A.mul 2 h)) (rB [A.inR .i64 (A.add n6 1),Nat.ble (A.len l7+A.len [syI (A.sub3 l5 0 15) (Int.toNat n6)]) 4294967296,List.all [AV.int .i64 (syI (A.sub3 l5 0 15) (Int.toNat n6))] fun x=>AV.bx x&&Nat.beq (Zaf A x) 1,decide (okw (A.sub3 l5 0 15)=true∧0≤n6∧n6≤1000),Nat.ble 15 (A.len l5)] (K (ZiQ (h) (w) (A) (n0) (n1) (b2) (l3) (l4) (l5) (A.add n6 1) (A.app l7 [syI (A.sub3 l5 0 15) (Int.toNat n6)])))) (F (AV.tup [AV.row 0 0,AV.int .i64 0]) (some { e:=3,sz:=1,r:=.ints .i64 l7 })))
theorem Zje{A:Ar}{K:KT}{F:FT}{M:MT}{h:Int}{w:List Int}{n0 n1:Int}{b2:Bool}{l3 l4 l5:List Int}{n6:Int}{l7:List Int} :Zam A tab Kc 19 K F M (.run 9 (.tf (.run 20 (.hd)) (.run 12 (.fn)))) (ZhX h w A n0 n1 b2 l3 l4 l5 n6 l7) (Zfx h w A n0 n1 b2 l3 l4 l5 n6 l7)=Ze4 A K F h w n0 n1 b2 l3 l4 l5 n6 l7:=by kernel_rfl
def ZBF(h:Int)(w:List Int):AFrame:={ fn:=95,N:=21,env:=[(0,AV.int .i64 h),(1,AV.list (.ints .i64 w))],todo:=[.code a95.code],defs:=[],rnd:=none,ret:=false,res:=[ARes.tmp 4] }
def ZFH(h:Int)(w:List Int):List AFrame:=[(ZBF h w)]
theorem Zu3(h:Int)(w:List Int):Zat tab 95 [AV.int .i64 h,AV.list (.ints .i64 w)]=some (ZBF h w):=rfl
def ZgQ(l0:List Int)(n1:Int):List AFrame:=[{ fn:=95,N:=21,env:=[(5,AV.row 95010 0),(6,AV.int .i64 n1)],todo:=.code (ACode.gh [] ZAs)::ZC9,defs:=[],rnd:=none,ret:=false,res:=[ARes.tmp 4] }]
def Ze5(l0:List Int)(n1:Int):Zaa:=[(95010,{ base:=0,blks:=[Blk.row 3 1 (.ints .i64 l0)] })]
abbrev Ziv(l0:List Int)(n1:Int):List AFrame×Zaa:=(ZgQ l0 n1,Ze5 l0 n1)
def Zyf(A:Ar)(K:KT)(F:FT)(h:Int)(w:List Int):Prop:=rB [decide (hfB h=true∧okw w=true)] (K (Ziv (syL w (Nat.mul 2 (Int.toNat h))) (0)))
theorem ZDS{A:Ar}{K:KT}{F:FT}{M:MT}{h:Int}{w:List Int} :Zam A tab Kc 95 K F M (.run 19 (.hd)) (ZFH h w) []=Zyf A K F h w:=by kernel_rfl
def Zdn(A:Ar)(K:KT)(F:FT)(l0:List Int)(n1:Int):Prop:=bB (A.lt n1 (A.int (A.len l0))) (rB [Zae (Nat.blt (A.nat n1) (A.len l0)) true,Zae (A.le 0 n1) (Nat.blt (A.nat n1) (A.len l0))] (bB (A.not (A.eq (A.nth l0 (A.nat n1)) 0)) (F (AV.bool false) (none)) (rB [A.inR .i64 (A.add n1 1)] (K (Ziv (l0) (A.add n1 1)))))) (F (AV.bool true) (none))
theorem Zia{A:Ar}{K:KT}{F:FT}{M:MT}{l0:List Int}{n1:Int} :Zam A tab Kc 95 K F M (.run 9 (.tf (.run 11 (.tf (.run 5 (.fn)) (.run 9 (.hd)))) (.run 6 (.fn)))) (ZgQ l0 n1) (Ze5 l0 n1)=Zdn A K F l0 n1:=by kernel_rfl
end Go.Proofs.Ytklbmkllepkjcaa
/- Contracts as a list. No condition. -/
namespace Go.Proofs.Ytklbmkllepkjcaa
theorem ZhR{w:List Int}(h:w.length=15):std.sub3 w 0 15=w:=by show(w.drop 0).take 15=w;rw[List.drop_zero,List.take_of_length_le (by omega)]
section
variable {C:Ctx}(hC:C.P=Try.prog){w:List Int}(hw:okw w=true)
include hC hw
theorem S75(h:Int)(hh:1≤h∧h≤3):∀(k j:Nat),(j:Int)+k=2*h→Ev C (ZhP w h std ((j+1:Nat):Int) (syL w j)) (ZfV w h std ((j+1:Nat):Int) (syL w j)) (Za9 75 (.row 0 0) (some ⟨3,1, .ints .i64 (syL w (2*h.toNat))⟩)):=by
 obtain⟨w1,w2⟩:=okw_iff.1 hw
 intro k
 induction k with
 |zero=>
  intro j hj
  refine tgo hC Zh4 Zja ?_
  rw[show 2*h.toNat=j by omega]
  simp[ZfJ,show ¬(j:Int)+1≤2*h by omega]
  omega
 |succ k ih=>
  intro j hj
  refine tgo hC Zh4 Zja ?_
  have i:=ih (j+1) (by omega)
  have e:=ZhR w1
  have l:=Zdd w j
  rw[ZjZ]at i
  simp only[ZfJ,e]
  simp[hw,w1,l,show(j:Int)+1≤2*h by omega,AV.bx,Zaf]at i⊢
  exact⟨by omega,by omega,i⟩
theorem S19(h:Int)(hh:1≤h∧h≤3)(n0 n1:Int)(b2:Bool)(l3 l4:List Int):∀(k j:Nat),(j:Int)+k=2*h→Ev C (ZhX h w std n0 n1 b2 l3 l4 w ((j+1:Nat):Int) (syL w j)) (Zfx h w std n0 n1 b2 l3 l4 w ((j+1:Nat):Int) (syL w j)) (Zxa 19 (.tup [.list (.ints .i64 (syL w (2*h.toNat))), .int .i64 0])):=by
 obtain⟨w1,w2⟩:=okw_iff.1 hw
 intro k
 induction k with
 |zero=>
  intro j hj
  refine ZD1 hC Zh4 Zje ?_
  rw[show 2*h.toNat=j by omega]
  simp[Ze4,show ¬(j:Int)+1≤2*h by omega]
  exact⟨by omega,_, .same _, .tup ⟨.row _ rfl rfl rfl, .same _ rfl rfl,trivial⟩,rfl⟩
 |succ k ih=>
  intro j hj
  refine ZD1 hC Zh4 Zje ?_
  have i:=ih (j+1) (by omega)
  have e:=ZhR w1
  have l:=Zdd w j
  rw[ZjZ]at i
  simp only[Ze4,e]
  simp[hw,w1,l,show(j:Int)+1≤2*h by omega,AV.bx,Zaf]at i⊢
  exact⟨by omega,by omega,i⟩
end
theorem Zsm(w:List Int)(h:Int)(hw:okw w=true)(hh:hfB h=true):Zah Try.prog 75 [.agg (.ints .i64 w), .int .i64 h] (.row 0 0) (some ⟨3,1, .ints .i64 (syL w (2*h.toNat))⟩):=by
 obtain⟨w1,w2⟩:=okw_iff.1 hw
 have hh:=of_decide_eq_true hh
 refine start (Zw9 w h) fun C hC=>tgo hC Zh4 ZDx ?_
 have i:=S75 hC hw h hh (2*h.toNat) 0 (by omega)
 simp[Zz1,syL,w1]at i⊢
 exact i
def Zei(h:Int)(w:List Int):Int:=Zaq [hfE h,elE w 15]
def Zcx(h:Int)(w:List Int):List Int:=if Zei h w=0 then syL w (2*h.toNat)else []
theorem ZtA{h:Int}(e:hfE h=0):1≤h∧h≤3:=by
 unfold hfE ZaM at e
 split at e
 ·rename_i h1;exact of_decide_eq_true h1
 ·cases e
theorem ZoV{l:List Int}{n:Int}(e:elE l n=0):(l.length:Int)=n∧ZaU l 0 15=0:=by
 obtain⟨a,b⟩:=ZeK e
 obtain⟨b,_⟩:=ZeK b
 refine⟨?_,b⟩
 by_cases h:(l.length:Int)=n
 ·exact h
 ·simp[ZaM,h]at a
theorem ZuR{h:Int}{w:List Int}(e:Zei h w=0):(1≤h∧h≤3)∧okw w=true:=by
 obtain⟨a,b⟩:=ZeK e
 obtain⟨b,_⟩:=ZeK b
 obtain⟨c,d⟩:=ZoV b
 exact⟨ZtA a,okw_iff.2 ⟨by omega,d⟩⟩
theorem Zs9(h:Int)(w:List Int)(hl:w.length≤1000000):Zah Try.prog 19 [.int .i64 h, .list (.ints .i64 w)] (.tup [.list (.ints .i64 (Zcx h w)), .int .i64 (Zei h w)]) ZuT:=by
 refine ZBd (Zu7 h w) fun C hC=>ZD1 hC Zh4 ZC6 ?_
 have e1:Zaq [hfE h,elE w 15]=Zei h w:=rfl
 by_cases e:Zei h w=0
 ·obtain⟨hh,hw⟩:=ZuR e
  obtain⟨w1,w2⟩:=okw_iff.1 hw
  have e2:=ZhR w1
  have i:=S19 hC hw h hh (Zei h w) (Zei h w) (!decide (Zei h w=0)) w w (2*h.toNat) 0 (by omega)
  simp only[Zvo,e1,e2]
  simp[hl,e,w1,Zcx,syL,AV.bx,Zaf]at i⊢
  exact i
 ·simp[Zvo,e1,hl,e,Zcx,AV.bx,Zaf]
  exact⟨_, .same _, .tup ⟨.nil _ rfl, .same _ rfl rfl,trivial⟩,rfl⟩
def isW(h:Int)(w:List Int):Bool:=(syL w (2*h.toNat)).all fun x=>decide (x=0)
section
variable {C:Ctx}(hC:C.P=Try.prog)
include hC
theorem S95(l:List Int)(hl:l.length≤1000):∀(k j:Nat),j+k=l.length→Ev C (ZgQ l j) (Ze5 l j) (Za9 95 (.bool ((l.drop j).all fun x=>decide (x=0))) none):=by
 intro k
 induction k with
 |zero=>
  intro j hj
  refine tgo hC Zh4 Zia ?_
  rw[List.drop_of_length_le (by omega)]
  simp[Zdn,show ¬(j:Int)<l.length by omega]
 |succ k ih=>
  intro j hj
  refine tgo hC Zh4 Zia ?_
  have i:=ih (j+1) (by omega)
  have hlt:j<l.length:=by omega
  have hlt2:(j:Int)<l.length:=by omega
  rw[ZgR hlt,List.all_cons]
  by_cases h0:l.getD j 0=0
  ·simp[-List.getD_eq_getElem?_getD,Zdn,hlt,hlt2,h0]at i⊢
   exact⟨by omega,i⟩
  ·simp[-List.getD_eq_getElem?_getD,Zdn,hlt,hlt2,h0]
end
theorem Zto(h:Int)(w:List Int)(hh:hfB h=true)(hw:okw w=true):Zah Try.prog 95 [.int .i64 h, .list (.ints .i64 w)] (.bool (isW h w)) none:=by
 refine start (Zu3 h w) fun C hC=>tgo hC Zh4 ZDS ?_
 have hh2:=of_decide_eq_true hh
 have l:=Zdd w (2*h.toNat)
 have i:=S95 hC (syL w (2*h.toNat)) (by omega) (syL w (2*h.toNat)).length 0 (by omega)
 rw[List.drop_zero]at i
 simp[Zyf,hh,hw,isW]at i⊢
 exact i
def erP:Int→List Int→Int
 |_,[]=>0
 |p,x::l=>if Zan x 0 14=true then(if p<x then erP x l else 9)else 6
def erE(h:Int)(e:List Int):Int:=if 2*h<(e.length:Int)then 8 else erP (-1) e
section
variable {C:Ctx}(hC:C.P=Try.prog)
include hC
end
def k75:Ctr:=⟨75,0,fun _ a=>match a with |[.agg (.ints .i64 w), .int .i64 h]=>some (decide (okw w=true∧hfB h=true), .row 0 0,some ⟨3,1, .ints .i64 (syL w (2*h.toNat))⟩) |_=>none⟩
theorem ZxV:k75.OK Try.prog:=fun pa args r fr h=>by
 simp only[k75]at h
 split at h
 ·simp only[Option.some.injEq,Prod.mk.injEq,decide_eq_true_eq]at h
  obtain⟨h0,rfl,rfl⟩:=h
  exact Zsm _ _ h0.1 h0.2
 ·cases h
def k19:Ctr:=⟨19,0,fun _ a=>match a with |[.int .i64 h, .list (.ints .i64 w)]=>some (decide (w.length≤1000000), .tup [.list (.ints .i64 (Zcx h w)), .int .i64 (Zei h w)],ZuT) |_=>none⟩
theorem ZAQ:k19.OK Try.prog:=fun pa args r fr h=>by
 simp only[k19]at h
 split at h
 ·simp only[Option.some.injEq,Prod.mk.injEq,decide_eq_true_eq]at h
  obtain⟨h0,rfl,rfl⟩:=h
  exact Zs9 _ _ h0
 ·cases h
def k95:Ctr:=⟨95,0,fun _ a=>match a with |[.int .i64 h, .list (.ints .i64 w)]=>some (decide (hfB h=true∧okw w=true), .bool (isW h w),none) |_=>none⟩
theorem Zxm:k95.OK Try.prog:=fun pa args r fr h=>by
 simp only[k95]at h
 split at h
 ·simp only[Option.some.injEq,Prod.mk.injEq,decide_eq_true_eq]at h
  obtain⟨h0,rfl,rfl⟩:=h
  exact Zto _ _ h0.1 h0.2
 ·cases h
def Kd:List Ctr:=[k75,k19,k95]++Kc
theorem ZBT:Zaz Try.prog Kd:=⟨ZxV,⟨ZAQ,⟨Zxm,Zh4⟩⟩⟩
end Go.Proofs.Ytklbmkllepkjcaa
/- Copies are rows of their own again. No condition. -/
namespace Go.Proofs.Ytklbmkllepkjcaa
def Ke:List Ctr:=[k14]++Kd
theorem ZaL:Zaz Try.prog Ke:=⟨Zur,ZBT⟩
end Go.Proofs.Ytklbmkllepkjcaa
