/- Paths of functions, printed by the explorer (Gx). No condition. -/
import Derived.Test.YtjhdnpmojhkbjaaRz
import Derived.KernelRfl
namespace Go.Proofs.Ytjhdnpmojhkbjaa
set_option maxRecDepth 100000
set_option linter.unusedVariables false
def ZHF(a:Int)(b:Int)(c:Int)(fs:List AV):AFrame:={ fn:=59,N:=44,env:=[(0,AV.agg (Row.gen [AV.int .i64 a,AV.int .i64 b])),(1,AV.int .i64 c),(2,AV.list (Row.big (Sh.agg [Sh.int .i64,Sh.int .i64,Sh.int .i64,Sh.ints .i64]) fs))],todo:=[.code a59.code],defs:=[],rnd:=none,ret:=false,res:=[ARes.tmp 6,ARes.tmp 7] }
def ZNZ(a:Int)(b:Int)(c:Int)(fs:List AV):List AFrame:=[(ZHF a b c fs)]
theorem ZnC(a:Int)(b:Int)(c:Int)(fs:List AV):Zak tab 59 [AV.agg (Row.gen [AV.int .i64 a,AV.int .i64 b]),AV.int .i64 c,AV.list (Row.big (Sh.agg [Sh.int .i64,Sh.int .i64,Sh.int .i64,Sh.ints .i64]) fs)]=some (ZHF a b c fs):=rfl
def Zik(x0:List AV)(n1:Int):List AFrame:=[{ fn:=59,N:=44,env:=[(10,AV.nils),(26,AV.list (Row.big (Sh.agg [Sh.int .i64,Sh.int .i64,Sh.int .i64,Sh.ints .i64,Sh.int .i64]) x0)),(27,AV.int .i64 n1),(28,AV.int .i64 0)],todo:=.code (ACode.gh [] ZA3)::ZCf,defs:=[],rnd:=none,ret:=false,res:=[ARes.tmp 6,ARes.tmp 7] }]
def Zgr(x0:List AV)(n1:Int):Zaa:=[]
abbrev ZoJ(x0:List AV)(n1:Int):List AFrame×Zaa:=(Zik x0 n1,Zgr x0 n1)
def ZfI(x0:List AV)(n1 n2:Int)(x3:List AV):List AFrame:=[{ fn:=59,N:=44,env:=[(10,AV.row 59042 0),(26,AV.list (Row.big (Sh.agg [Sh.int .i64,Sh.int .i64,Sh.int .i64,Sh.ints .i64,Sh.int .i64]) x0)),(27,AV.int .i64 n1),(28,AV.int .i64 n2)],todo:=.code (ACode.gh [] ZA3)::ZCf,defs:=[],rnd:=none,ret:=false,res:=[ARes.tmp 6,ARes.tmp 7] }]
def ZeY(x0:List AV)(n1:Int)(n2:Int)(x3:List AV):Zaa:=[(59042,{ base:=0,blks:=[Blk.row 74 4 (Row.big (Sh.agg [Sh.int .i64,Sh.int .i64,Sh.int .i64,Sh.ints .i64]) x3)] })]
abbrev Zjm(x0:List AV)(n1:Int)(n2:Int)(x3:List AV):List AFrame×Zaa:=(ZfI x0 n1 n2 x3,ZeY x0 n1 n2 x3)
theorem ZKt(A:Ar)(a b c:Int)(fs:List AV):Zaz A tab BOl 34 [true] 59 (ZNZ a b c fs) []=
 some (tr [4,8,6] [A.not (A.eq (ZaI a b c fs) 0),decide (Zaw fs=true)],
  AV.tup [AV.nils,AV.int .i64 (ZaI a b c fs)],none):=by kernel_rfl
theorem ZM5(A:Ar)(a b c:Int)(fs:List AV):Zad A tab BOl 44 [false] (ZNZ a b c fs) []=
 some (tr [2,3,8,6] [decide (nmB fs=true),!A.not (A.eq (ZaI a b c fs) 0),decide (Zaw fs=true)],
  ZoJ (Zdc c fs) (A.int (A.lenA (Zdc c fs)))):=by kernel_rfl
theorem ZJ0(A:Ar)(x0:List AV)(n1:Int):Zad A tab BOl 46 [true] (Zik x0 n1) (Zgr x0 n1)=
 some (tr [1,1,0,4,9,0,1] [A.inR .i64 (A.add 0 1),Zab (Nat.ble (A.lenA [AV.agg (Row.gen [.int .i64 ((A.nthA x0 (A.nat 0)).cellAt 0).toI, .int .i64 ((A.nthA x0 (A.nat 0)).cellAt 1).toI, .int .i64 ((A.nthA x0 (A.nat 0)).cellAt 2).toI, .list (.ints .i64 ((A.nthA x0 (A.nat 0)).cellAt 3).toIs)])]) 4294967296) (Nat.blt 0 (A.lenA [AV.agg (Row.gen [.int .i64 ((A.nthA x0 (A.nat 0)).cellAt 0).toI, .int .i64 ((A.nthA x0 (A.nat 0)).cellAt 1).toI, .int .i64 ((A.nthA x0 (A.nat 0)).cellAt 2).toI, .list (.ints .i64 ((A.nthA x0 (A.nat 0)).cellAt 3).toIs)])])),List.all [AV.agg (Row.gen [.int .i64 ((A.nthA x0 (A.nat 0)).cellAt 0).toI, .int .i64 ((A.nthA x0 (A.nat 0)).cellAt 1).toI, .int .i64 ((A.nthA x0 (A.nat 0)).cellAt 2).toI, .list (.ints .i64 ((A.nthA x0 (A.nat 0)).cellAt 3).toIs)])] fun x=>AV.bx x&&Nat.beq (Zac A x) 4,decide (List.length ((A.nthA x0 (A.nat 0)).cellAt 3).toIs≤4294967296),Zab (Zab (A.le 0 0) (Nat.blt (A.nat 0) (A.lenA x0))) true,A.lt 0 n1],
  Zjm (x0) (n1) (A.add 0 1) ([AV.agg (Row.gen [.int .i64 ((A.nthA x0 (A.nat 0)).cellAt 0).toI, .int .i64 ((A.nthA x0 (A.nat 0)).cellAt 1).toI, .int .i64 ((A.nthA x0 (A.nat 0)).cellAt 2).toI, .list (.ints .i64 ((A.nthA x0 (A.nat 0)).cellAt 3).toIs)])])):=by kernel_rfl
theorem ZJ4(A:Ar)(x0:List AV)(n1:Int):Zaz A tab BOl 15 [false] 59 (Zik x0 n1) (Zgr x0 n1)=
 some (tr [4,1] [!A.lt 0 n1],
  AV.tup [AV.nils,AV.int .i64 0],none):=by kernel_rfl
theorem ZKv(A:Ar)(x0:List AV)(n1 n2:Int)(x3:List AV):Zad A tab BOl 46 [true] (ZfI x0 n1 n2 x3) (ZeY x0 n1 n2 x3)=
 some (tr [1,1,0,4,9,0,1] [A.inR .i64 (A.add n2 1),Nat.ble (A.lenA x3+A.lenA [AV.agg (Row.gen [.int .i64 ((A.nthA x0 (A.nat n2)).cellAt 0).toI, .int .i64 ((A.nthA x0 (A.nat n2)).cellAt 1).toI, .int .i64 ((A.nthA x0 (A.nat n2)).cellAt 2).toI, .list (.ints .i64 ((A.nthA x0 (A.nat n2)).cellAt 3).toIs)])]) 4294967296,List.all [AV.agg (Row.gen [.int .i64 ((A.nthA x0 (A.nat n2)).cellAt 0).toI, .int .i64 ((A.nthA x0 (A.nat n2)).cellAt 1).toI, .int .i64 ((A.nthA x0 (A.nat n2)).cellAt 2).toI, .list (.ints .i64 ((A.nthA x0 (A.nat n2)).cellAt 3).toIs)])] fun x=>AV.bx x&&Nat.beq (Zac A x) 4,decide (List.length ((A.nthA x0 (A.nat n2)).cellAt 3).toIs≤4294967296),Zab (Zab (A.le 0 n2) (Nat.blt (A.nat n2) (A.lenA x0))) true,A.lt n2 n1],
  Zjm (x0) (n1) (A.add n2 1) (A.appA x3 [AV.agg (Row.gen [.int .i64 ((A.nthA x0 (A.nat n2)).cellAt 0).toI, .int .i64 ((A.nthA x0 (A.nat n2)).cellAt 1).toI, .int .i64 ((A.nthA x0 (A.nat n2)).cellAt 2).toI, .list (.ints .i64 ((A.nthA x0 (A.nat n2)).cellAt 3).toIs)])])):=by kernel_rfl
theorem ZNA(A:Ar)(x0:List AV)(n1 n2:Int)(x3:List AV):Zaz A tab BOl 15 [false] 59 (ZfI x0 n1 n2 x3) (ZeY x0 n1 n2 x3)=
 some (tr [4,1] [!A.lt n2 n1],
  AV.tup [AV.row 0 0,AV.int .i64 0],some { e:=74,sz:=4,r:=Row.big (.agg [.int .i64, .int .i64, .int .i64, .ints .i64]) x3 }):=by kernel_rfl
def ZHt(a:Int)(b:Int)(c:Int)(fs:List AV):AFrame:={ fn:=58,N:=29,env:=[(0,AV.agg (Row.gen [AV.int .i64 a,AV.int .i64 b])),(1,AV.int .i64 c),(2,AV.list (Row.big (Sh.agg [Sh.int .i64,Sh.int .i64,Sh.int .i64,Sh.ints .i64]) fs))],todo:=[.code a58.code],defs:=[],rnd:=none,ret:=false,res:=[ARes.tmp 6,ARes.tmp 7] }
def ZNL(a:Int)(b:Int)(c:Int)(fs:List AV):List AFrame:=[(ZHt a b c fs)]
theorem ZAp(a:Int)(b:Int)(c:Int)(fs:List AV):Zak tab 58 [AV.agg (Row.gen [AV.int .i64 a,AV.int .i64 b]),AV.int .i64 c,AV.list (Row.big (Sh.agg [Sh.int .i64,Sh.int .i64,Sh.int .i64,Sh.ints .i64]) fs)]=some (ZHt a b c fs):=rfl
theorem ZNv(A:Ar)(a b c:Int)(fs:List AV):Zaz A tab BOl 34 [true] 58 (ZNL a b c fs) []=
 some (tr [4,8,6] [A.not (A.eq (ZaI a b c fs) 0),decide (Zaw fs=true)],
  AV.tup [AV.int .i64 0,AV.int .i64 (ZaI a b c fs)],none):=by kernel_rfl
theorem ZLp(A:Ar)(a b c:Int)(fs:List AV):Zaz A tab BOl 46 [false] 58 (ZNL a b c fs) []=
 some (tr [3,2,2,2,8,6] [A.inR .i64 (A.sub (Zi1 (Zdc c fs)) (A.int (A.lenA (Zdc c fs)))),decide (ZpH (Zdc c fs)=true),decide (nmB fs=true),!A.not (A.eq (ZaI a b c fs) 0),decide (Zaw fs=true)],
  AV.tup [AV.int .i64 (A.sub (Zi1 (Zdc c fs)) (A.int (A.lenA (Zdc c fs)))),AV.int .i64 0],none):=by kernel_rfl
def ZHp(fs:List AV):AFrame:={ fn:=17,N:=20,env:=[(0,AV.list (Row.big (Sh.agg [Sh.int .i64,Sh.int .i64,Sh.int .i64,Sh.ints .i64]) fs))],todo:=[.code a17.code],defs:=[],rnd:=none,ret:=false,res:=[ARes.tmp 2] }
def ZPm(fs:List AV):List AFrame:=[(ZHp fs)]
theorem Zku(fs:List AV):Zak tab 17 [AV.list (Row.big (Sh.agg [Sh.int .i64,Sh.int .i64,Sh.int .i64,Sh.ints .i64]) fs)]=some (ZHp fs):=rfl
def ZiQ(fs:List AV):List AFrame:=[{ fn:=17,N:=20,env:=[(0,AV.list (Row.big (Sh.agg [Sh.int .i64,Sh.int .i64,Sh.int .i64,Sh.ints .i64]) fs)),(3,AV.nils),(4,AV.int .i64 0)],todo:=.code (ACode.gh [] ZxF)::ZIG,defs:=[],rnd:=none,ret:=false,res:=[ARes.tmp 2] }]
def ZgA(fs:List AV):Zaa:=[]
abbrev Zpt(fs:List AV):List AFrame×Zaa:=(ZiQ fs,ZgA fs)
def ZfK(fs:List AV)(n0:Int)(x1:List AV):List AFrame:=[{ fn:=17,N:=20,env:=[(0,AV.list (Row.big (Sh.agg [Sh.int .i64,Sh.int .i64,Sh.int .i64,Sh.ints .i64]) fs)),(3,AV.row 17019 0),(4,AV.int .i64 n0)],todo:=.code (ACode.gh [] ZxF)::ZIG,defs:=[],rnd:=none,ret:=false,res:=[ARes.tmp 2] }]
def Ze8(fs:List AV)(n0:Int)(x1:List AV):Zaa:=[(17019,{ base:=0,blks:=[Blk.row 74 4 (Row.big (Sh.agg [Sh.int .i64,Sh.int .i64,Sh.int .i64,Sh.ints .i64]) x1)] })]
abbrev Zjd(fs:List AV)(n0:Int)(x1:List AV):List AFrame×Zaa:=(ZfK fs n0 x1,Ze8 fs n0 x1)
theorem ZtN(A:Ar)(fs:List AV):Zad A tab BOl 16 [] (ZPm fs) []=
 some (tr [3] [],
  Zpt (fs)):=by kernel_rfl
theorem ZGZ(A:Ar)(fs:List AV):Zad A tab BOl 32 [true] (ZiQ fs) (ZgA fs)=
 some (tr [1,2,0,0,1,3,4] [A.inR .i64 (A.add 0 1),Zab (Nat.ble (A.lenA [AV.agg (Row.gen [.int .i64 ((A.nthA fs (A.nat 0)).cellAt 0).toI, .int .i64 ((A.nthA fs (A.nat 0)).cellAt 1).toI, .int .i64 ((A.nthA fs (A.nat 0)).cellAt 2).toI, .list (.ints .i64 ((A.nthA fs (A.nat 0)).cellAt 3).toIs)])]) 4294967296) (Nat.blt 0 (A.lenA [AV.agg (Row.gen [.int .i64 ((A.nthA fs (A.nat 0)).cellAt 0).toI, .int .i64 ((A.nthA fs (A.nat 0)).cellAt 1).toI, .int .i64 ((A.nthA fs (A.nat 0)).cellAt 2).toI, .list (.ints .i64 ((A.nthA fs (A.nat 0)).cellAt 3).toIs)])])),List.all [AV.agg (Row.gen [.int .i64 ((A.nthA fs (A.nat 0)).cellAt 0).toI, .int .i64 ((A.nthA fs (A.nat 0)).cellAt 1).toI, .int .i64 ((A.nthA fs (A.nat 0)).cellAt 2).toI, .list (.ints .i64 ((A.nthA fs (A.nat 0)).cellAt 3).toIs)])] fun x=>AV.bx x&&Nat.beq (Zac A x) 4,decide (List.length ((A.nthA fs (A.nat 0)).cellAt 3).toIs≤4294967296),Zab (Zab (A.le 0 0) (Nat.blt (A.nat 0) (A.lenA fs))) true,A.lt 0 (A.int (A.lenA fs))],
  Zjd (fs) (A.add 0 1) ([AV.agg (Row.gen [.int .i64 ((A.nthA fs (A.nat 0)).cellAt 0).toI, .int .i64 ((A.nthA fs (A.nat 0)).cellAt 1).toI, .int .i64 ((A.nthA fs (A.nat 0)).cellAt 2).toI, .list (.ints .i64 ((A.nthA fs (A.nat 0)).cellAt 3).toIs)])])):=by kernel_rfl
theorem ZFb(A:Ar)(fs:List AV):Zaz A tab BOl 17 [false] 17 (ZiQ fs) (ZgA fs)=
 some (tr [3,4] [!A.lt 0 (A.int (A.lenA fs))],
  AV.nils,none):=by kernel_rfl
theorem ZLC(A:Ar)(fs:List AV)(n0:Int)(x1:List AV):Zad A tab BOl 32 [true] (ZfK fs n0 x1) (Ze8 fs n0 x1)=
 some (tr [1,2,0,0,1,3,4] [A.inR .i64 (A.add n0 1),Nat.ble (A.lenA x1+A.lenA [AV.agg (Row.gen [.int .i64 ((A.nthA fs (A.nat n0)).cellAt 0).toI, .int .i64 ((A.nthA fs (A.nat n0)).cellAt 1).toI, .int .i64 ((A.nthA fs (A.nat n0)).cellAt 2).toI, .list (.ints .i64 ((A.nthA fs (A.nat n0)).cellAt 3).toIs)])]) 4294967296,List.all [AV.agg (Row.gen [.int .i64 ((A.nthA fs (A.nat n0)).cellAt 0).toI, .int .i64 ((A.nthA fs (A.nat n0)).cellAt 1).toI, .int .i64 ((A.nthA fs (A.nat n0)).cellAt 2).toI, .list (.ints .i64 ((A.nthA fs (A.nat n0)).cellAt 3).toIs)])] fun x=>AV.bx x&&Nat.beq (Zac A x) 4,decide (List.length ((A.nthA fs (A.nat n0)).cellAt 3).toIs≤4294967296),Zab (Zab (A.le 0 n0) (Nat.blt (A.nat n0) (A.lenA fs))) true,A.lt n0 (A.int (A.lenA fs))],
  Zjd (fs) (A.add n0 1) (A.appA x1 [AV.agg (Row.gen [.int .i64 ((A.nthA fs (A.nat n0)).cellAt 0).toI, .int .i64 ((A.nthA fs (A.nat n0)).cellAt 1).toI, .int .i64 ((A.nthA fs (A.nat n0)).cellAt 2).toI, .list (.ints .i64 ((A.nthA fs (A.nat n0)).cellAt 3).toIs)])])):=by kernel_rfl
theorem ZLo(A:Ar)(fs:List AV)(n0:Int)(x1:List AV):Zaz A tab BOl 17 [false] 17 (ZfK fs n0 x1) (Ze8 fs n0 x1)=
 some (tr [3,4] [!A.lt n0 (A.int (A.lenA fs))],
  AV.row 0 0,some { e:=74,sz:=4,r:=Row.big (.agg [.int .i64, .int .i64, .int .i64, .ints .i64]) x1 }):=by kernel_rfl
end Go.Proofs.Ytjhdnpmojhkbjaa
/- Contracts as a list. No condition. -/
namespace Go.Proofs.Ytjhdnpmojhkbjaa
theorem ZkE(c:Int):∀(fs:List AV) (last:Int),∀x∈ZiY c fs last,last-32*(fs.length:Int)≤Zav x∧Zav x≤last+32*(fs.length:Int)
 |[],_,x,hx=>by simp[ZiY]at hx
 |f::fs,last,x,hx=>by
  unfold ZiY at hx
  have hn:=ZoD last (ctF f)
  split at hx
  ·rcases List.mem_cons.1 hx with rfl |hx
   ·rw[Zkt];simp only[List.length_cons];omega
   ·have:=ZkE c fs _ x hx;simp only[List.length_cons];omega
  ·have:=ZkE c fs _ x hx;simp only[List.length_cons];omega
theorem Zmk(c:Int):∀(fs:List AV),ctB fs=true→∀x∈Zbw c fs, -32*(fs.length:Int)≤Zav x∧Zav x≤200+32*(fs.length:Int)
 |[],_,x,hx=>by simp[Zbw]at hx
 |f::fs,h,x,hx=>by
  have h1:0≤ctF f∧ctF f≤63:=of_decide_eq_true (List.all_eq_true.mp h f (by simp))
  have h2:ctB fs=true:=List.all_eq_true.mpr fun g hg=>List.all_eq_true.mp h g (by simp[hg])
  unfold Zbw at hx
  split at hx
  ·rcases List.mem_cons.1 hx with rfl |hx
   ·rw[Zkt];simp only[List.length_cons];omega
   ·have:=ZkE c fs _ x hx;simp only[List.length_cons];omega
  ·have:=Zmk c fs h2 x hx;simp only[List.length_cons];omega
theorem Zko(c:Int):∀(fs:List AV) (last:Int),(ZiY c fs last).length≤fs.length
 |[],_=>Nat.le_refl _
 |f::fs,last=>by
  unfold ZiY
  split
  ·have:=Zko c fs (ZfV last (ctF f));simp only[List.length_cons];omega
  ·have:=Zko c fs last;simp only[List.length_cons];omega
theorem Zk5(c:Int):∀(fs:List AV),(Zbw c fs).length≤fs.length
 |[]=>Nat.le_refl _
 |f::fs=>by
  unfold Zbw
  split
  ·have:=Zko c fs (ctF f+64);simp only[List.length_cons];omega
  ·have:=Zk5 c fs;simp only[List.length_cons];omega
theorem Zm0{x:AV} :∀ {l:List AV} {p:AV},x∈cpA p l→x∈l
 |[],_,h=>h
 |y::l,p,h=>by
  unfold cpA at h
  split at h
  ·exact List.mem_cons_of_mem _ (Zm0 h)
  ·rcases List.mem_cons.1 h with rfl |h
   ·exact List.mem_cons_self
   ·exact List.mem_cons_of_mem _ (Zm0 h)
theorem Zm1{x:AV}{l:List AV}(h:x∈cpN l):x∈l:=by
 cases l with
 |nil=>exact h
 |cons y l=>
  rcases List.mem_cons.1 h with rfl |h
  ·exact List.mem_cons_self
  ·exact List.mem_cons_of_mem _ (Zm0 h)
theorem ZhL{x:AV}{c:Int}{fs:List AV}(h:x∈Zdc c fs):x∈Zbw c fs:=by
 rw[Zrk]at h
 exact ZfL (Zm1 h)
theorem ZdZ(c:Int)(fs:List AV):(Zdc c fs).length≤fs.length:=by
 rw[Zrk]
 have h1:=Zrp (Zax (Zbw c fs))
 rw[Zcu]at h1
 have:=Zk5 c fs
 omega
theorem ZEG{fs:List AV}(h:nmB fs=true):fs.length<10000∧ctB fs=true:=by
 unfold nmB at h
 simpa using h
theorem ZnG{c:Int}{fs:List AV}(h:nmB fs=true):∀x∈Zdc c fs, -400000≤Zav x∧Zav x≤400000:=fun x hx=>by
 obtain⟨h1,h2⟩:=ZEG h
 have:=Zmk c fs h2 x (ZhL hx)
 omega
theorem ZyY{c:Int}{fs:List AV}(h:nmB fs=true):ZpH (Zdc c fs)=true∧ -900000≤Zi1 (Zdc c fs)∧Zi1 (Zdc c fs)≤900000:=by
 have hl:=ZdZ c fs
 obtain⟨h1,_⟩:=ZEG h
 have hr:=ZnG (c:=c) h
 unfold ZpH Zi1
 generalize Zdc c fs=l at*
 by_cases h0:l=[]
 ·subst h0;simp[Zav,AV.cellAt,AV.toI]
 ·have hp:0<l.length:=List.length_pos_iff.mpr h0
  have g1:l.getD (l.length-1) .top∈l:=by
   rw[List.getD_eq_getElem?_getD,List.getElem?_eq_getElem (by omega)];exact List.getElem_mem _
  have g2:l.getD 0 .top∈l:=by
   rw[List.getD_eq_getElem?_getD,List.getElem?_eq_getElem (by omega)];exact List.getElem_mem _
  have r1:=hr _ g1
  have r2:=hr _ g2
  rw[if_neg (by omega)]
  simp only[Bool.and_eq_true,decide_eq_true_eq]
  omega
theorem ZkG{a b:Int} :∀ {fs:List AV},ZfC a b fs=0→∀f∈fs,frW a b f=0
 |[],_,f,hf=>absurd hf List.not_mem_nil
 |g::fs,h,f,hf=>by
  unfold ZfC at h
  split at h
  ·rename_i h0
   rcases List.mem_cons.1 hf with rfl |hf
   ·exact h0
   ·exact ZkG h f hf
  ·rename_i h0;exact absurd h h0
theorem Zkv{a b c:Int}{fs:List AV}(h:ZaI a b c fs=0):Zat a b=0∧ZaQ b c=0∧fs.length≤40∧ZfC a b fs=0:=by
 unfold ZaI at h
 simp only[Zau]at h
 by_cases h1:Zat a b=0
 ·by_cases h2:ZaQ b c=0
  ·by_cases h3:(fs.length:Int)≤40
   ·simp[h1,h2,h3]at h
    exact⟨h1,h2,by omega,by by_cases h9:ZfC a b fs=0
                            ·exact h9
                            ·exact h h9⟩
   ·simp[h1,h2,h3,Zal]at h
  ·simp[h1,h2]at h
 ·simp[h1]at h
theorem Znu{a b c:Int}{fs:List AV}(h:ZaI a b c fs=0):nmB fs=true:=by
 obtain⟨h1,h2,h3,h4⟩:=Zkv h
 unfold nmB
 simp only[Bool.and_eq_true,decide_eq_true_eq]
 refine⟨by omega,List.all_eq_true.mpr fun f hf=>decide_eq_true ?_⟩
 have hw:=ZkG h4 f hf
 have hrb:ZbX a b=true:=by
  unfold Zat at h1
  by_cases hb:ZbX a b=true
  ·exact hb
  ·rw[if_neg hb]at h1;cases h1
 unfold frW at hw
 rw[ZhR hrb]at hw
 exact(Zle hw).2.1
theorem Ze7{fs:List AV}(h:Zaw fs=true):fs.length≤1000000∧∀f∈fs,(dtF f).length≤1000000:=by
 unfold Zaw at h
 simpa using h
theorem Zmg{C:Ctx}(hC:C.P=Try.prog)(fs:List AV)(hl:fs.length≤1000000)(hk:∀f∈fs,(dtF f).length≤1000000):∀(d i:Nat),fs.length-i=d→i≤fs.length→
 Ev C (ZfK fs i ((fs.take i).map Zdw)) (Ze8 fs i ((fs.take i).map Zdw)) (ZdV 17 (.row 0 0) (some ⟨74,4, .big Zg8 (fs.map Zdw)⟩)):=by
 intro d
 induction d with
 |zero=>
  intro i hd hi
  rw[List.take_of_length_le (by omega)]
  exact fin hC ZbI (ZLo std fs i _) (by simp;omega) rfl rfl
 |succ d ih=>
  intro i hd hi
  have hlt:i<fs.length:=by omega
  have hg:fs.getD i .top=fs[i]:=by simp[hlt]
  have e2:std.add (i:Int) 1=((i+1:Nat):Int):=by simp
  have hb:=hk fs[i] (by simp)
  have ih':=ih (i+1) (by omega) (by omega)
  rw[List.take_succ_eq_append_getElem hlt,List.map_append,List.map_singleton]at ih'
  have hlen2:((fs.take i).map Zdw).length=i:=by simp;omega
  have hw:=ZLC std fs i ((fs.take i).map Zdw)
  generalize (fs.take i).map Zdw=X at*
  simp only[ZaC,Zar,Int.toNat_natCast,hg,e2,Zc6]at hw
  rw[show (AV.agg (Row.gen [AV.int .i64 (AV.toI (AV.cellAt fs[i] 0)),AV.int .i64 (AV.toI (AV.cellAt fs[i] 1)),AV.int .i64 (AV.toI (AV.cellAt fs[i] 2)),AV.list (.ints .i64 (AV.toIs (AV.cellAt fs[i] 3)))]))=Zdw fs[i]from rfl]at hw
  refine go hC ZbI hw ?_ ih'
  have hb':(AV.toIs (AV.cellAt fs[i] 3)).length≤1000000:=hb
  simp[hlt,hlen2,AV.bx,Zac,Row.len,Zdw]
  omega
theorem ZoB(fs:List AV)(h:Zaw fs=true):ZaH Try.prog 17 [.list (.big Zg8 fs)] (.list (.big Zg8 fs)) none:=by
 obtain⟨hl,hk⟩:=Ze7 h
 cases fs with
 |nil=>exact Zuk (start (Zku []) fun C hC=>go hC ZbI (ZtN std []) (by simp) (fin hC ZbI (ZFb std []) (by simp) rfl rfl)) rfl
 |cons f gs=>
  have key:=Zue (e:=74) (sz:=3) (f:=17) (args:=[.list (.big Zg8 (f::gs))]) (r:=.big Zg8 ((f::gs).map Zdw))
   (start (Zku (f::gs)) fun C hC=>by
     refine go hC ZbI (ZtN std (f::gs)) (by simp) ?_
     have hb:(AV.toIs (AV.cellAt f 3)).length≤1000000:=hk f (by simp)
     have hw:=ZGZ std (f::gs)
     have e1:(f::gs).getD (Int.toNat 0) .top=f:=rfl
     simp only[ZaC,Zar,e1]at hw
     refine go hC ZbI hw ?_ ?_
     ·simp[AV.bx,Zac,Row.len];omega
     ·have:=Zmg hC (f::gs) hl hk gs.length 1 (by simp) (by simp)
      simpa[Zdw]using this) rfl
  exact Zix key (by simp[Row.elems,Zdw,Sh.view,ZeI,Sh.view1,AV.cellAt,AV.toI,AV.toIs])
theorem ZpK{C:Ctx}(hC:C.P=Try.prog)(L:List AV)(hl:L.length≤1000000)(hk:∀f∈L,(AV.toIs (AV.cellAt f 3)).length≤1000000):∀(d i:Nat),L.length-i=d→i≤L.length→
 Ev C (ZfI L L.length i ((L.take i).map Zdw)) (ZeY L L.length i ((L.take i).map Zdw)) (ZdV 59 (.tup [.row 0 0, .int .i64 0]) (some ⟨74,4, .big Zg8 (L.map Zdw)⟩)):=by
 intro d
 induction d with
 |zero=>
  intro i hd hi
  rw[List.take_of_length_le (by omega)]
  exact fin hC ZbI (ZNA std L L.length i _) (by simp;omega) rfl rfl
 |succ d ih=>
  intro i hd hi
  have hlt:i<L.length:=by omega
  have hg:L.getD i .top=L[i]:=by simp[hlt]
  have e2:std.add (i:Int) 1=((i+1:Nat):Int):=by simp
  have hb:=hk L[i] (by simp)
  have ih':=ih (i+1) (by omega) (by omega)
  rw[List.take_succ_eq_append_getElem hlt,List.map_append,List.map_singleton]at ih'
  have hlen2:((L.take i).map Zdw).length=i:=by simp;omega
  have hw:=ZKv std L L.length i ((L.take i).map Zdw)
  generalize (L.take i).map Zdw=X at*
  simp only[ZaC,Zar,Int.toNat_natCast,hg,e2,Zc6]at hw
  rw[show (AV.agg (Row.gen [AV.int .i64 (AV.toI (AV.cellAt L[i] 0)),AV.int .i64 (AV.toI (AV.cellAt L[i] 1)),AV.int .i64 (AV.toI (AV.cellAt L[i] 2)),AV.list (.ints .i64 (AV.toIs (AV.cellAt L[i] 3)))]))=Zdw L[i]from rfl]at hw
  refine go hC ZbI hw ?_ ih'
  simp[hlt,hlen2,AV.bx,Zac,Row.len,Zdw]
  omega
theorem Zh6{c:Int}{m:Nat} :∀ {fs:List AV} {last:Int},(∀f∈fs,(dtF f).length≤m)→∀x∈ZiY c fs last,(AV.toIs (AV.cellAt x 3)).length≤m
 |[],_,_,x,hx=>by simp[ZiY]at hx
 |f::fs,last,h,x,hx=>by
  unfold ZiY at hx
  split at hx
  ·rcases List.mem_cons.1 hx with rfl |hx
   ·exact h f (by simp)
   ·exact Zh6 (fun g hg=>h g (by simp[hg])) x hx
  ·exact Zh6 (fun g hg=>h g (by simp[hg])) x hx
theorem Zgp{c:Int}{m:Nat} :∀ {fs:List AV},(∀f∈fs,(dtF f).length≤m)→∀x∈Zbw c fs,(AV.toIs (AV.cellAt x 3)).length≤m
 |[],_,x,hx=>by simp[Zbw]at hx
 |f::fs,h,x,hx=>by
  unfold Zbw at hx
  split at hx
  ·rcases List.mem_cons.1 hx with rfl |hx
   ·exact h f (by simp)
   ·exact Zh6 (fun g hg=>h g (by simp[hg])) x hx
  ·exact Zgp (fun g hg=>h g (by simp[hg])) x hx
def ZkV(a b c:Int)(fs:List AV):List AV:=if ZaI a b c fs=0 then(Zdc c fs).map Zdw else []
theorem ZsD(a b c:Int)(fs:List AV)(h:Zaw fs=true):ZaH Try.prog 59 [.agg (.gen [.int .i64 a, .int .i64 b]), .int .i64 c, .list (.big Zg8 fs)] (.tup [.list (.big Zg8 (ZkV a b c fs)), .int .i64 (ZaI a b c fs)]) none:=by
 obtain⟨hl,hk⟩:=Ze7 h
 by_cases h0:ZaI a b c fs=0
 ·have hnm:=Znu h0
  have hL:=ZdZ c fs
  have hD:∀f∈Zdc c fs,(AV.toIs (AV.cellAt f 3)).length≤1000000:=fun f hf=>Zgp hk f (ZhL hf)
  have e0:ZkV a b c fs=(Zdc c fs).map Zdw:=by unfold ZkV;rw[if_pos h0]
  rw[e0,h0]
  have hw0:=ZM5 std a b c fs
  generalize Zdc c fs=L at*
  cases L with
  |nil=>
   rw[List.map_nil]
   exact Zkp (xs:=[.nils, .int .i64 0]) (start (ZnC a b c fs) fun C hC=>go hC ZbI hw0 (by simp[h,h0,hnm]) (by
    have:=fin hC ZbI (ZJ4 std [] 0) (by simp) rfl rfl
    simpa using this)) ⟨.one (.nil _ rfl),Zfa _,trivial⟩
  |cons x L=>
   refine ZkP (e:=74) (sz:=3) (xs:=[.row 0 0, .int .i64 0]) (start (ZnC a b c fs) fun C hC=>go hC ZbI hw0 (by simp[h,h0,hnm]) ?_) rfl ⟨.row, .same _ rfl,trivial⟩
   have hb:=hD x (by simp)
   have hw:=ZJ0 std (x::L) (std.int (std.lenA (x::L)))
   have e1:(x::L).getD (Int.toNat 0) .top=x:=rfl
   simp only[ZaC,Zar,e1]at hw
   refine go hC ZbI hw ?_ ?_
   ·simp[AV.bx,Zac,Row.len];omega
   ·have:=ZpK hC (x::L) (by omega) hD L.length 1 (by simp) (by simp)
    simpa[Zdw]using this
 ·have e0:ZkV a b c fs=[]:=by unfold ZkV;rw[if_neg h0]
  rw[e0]
  exact Zkp (start (ZnC a b c fs) fun C hC=>fin hC ZbI (ZKt std a b c fs) (by simp[h,h0]) rfl rfl) ⟨.one (.nil _ rfl),Zfa _,trivial⟩
theorem Znd(a b c:Int)(fs:List AV):ZkV a b c fs=if ZaI a b c fs=0 then(Zdc c fs).map Zdw else []:=rfl
attribute [irreducible] ZkV
def Zid(a b c:Int)(fs:List AV):Int:=if ZaI a b c fs=0 then Zi1 (Zdc c fs)-((Zdc c fs).length:Int)else 0
theorem ZDL(a b c:Int)(fs:List AV)(h:Zaw fs=true):ZaH Try.prog 58 [.agg (.gen [.int .i64 a, .int .i64 b]), .int .i64 c, .list (.big Zg8 fs)] (.tup [.int .i64 (Zid a b c fs), .int .i64 (ZaI a b c fs)]) none:=
 start (ZAp a b c fs) fun C hC=>by
  unfold Zid
  by_cases h0:ZaI a b c fs=0
  ·have hnm:=Znu h0
   obtain⟨s1,s2,s3⟩:=ZyY (c:=c) hnm
   have hL:=ZdZ c fs
   have hl:=(Ze7 h).1
   rw[if_pos h0,h0]
   refine fin hC ZbI (ZLp std a b c fs) ?_ rfl rfl
   simp[h,h0,hnm,s1]
   omega
  ·rw[if_neg h0]
   exact fin hC ZbI (ZNv std a b c fs) (by simp[h,h0]) rfl rfl
def k17:Ctr:=⟨17,0,fun _ a=>match a with |[.list (.big (.agg [.int .i64, .int .i64, .int .i64, .ints .i64]) fs)]=>some (decide (Zaw fs=true), .list (.big Zg8 fs),none) |_=>none⟩
theorem ZEc:k17.OK Try.prog:=fun pa args r fr h=>by
 simp only[k17]at h
 split at h
 ·simp only[Option.some.injEq,Prod.mk.injEq,decide_eq_true_eq]at h
  obtain⟨h0,rfl,rfl⟩:=h
  exact ZoB _ h0
 ·cases h
def k59:Ctr:=⟨59,0,fun _ a=>match a with |[.agg (.gen [.int .i64 a, .int .i64 b]), .int .i64 c, .list (.big (.agg [.int .i64, .int .i64, .int .i64, .ints .i64]) fs)]=>some (decide (Zaw fs=true), .tup [.list (.big Zg8 (ZkV a b c fs)), .int .i64 (ZaI a b c fs)],none) |_=>none⟩
theorem ZG6:k59.OK Try.prog:=fun pa args r fr h=>by
 simp only[k59]at h
 split at h
 ·simp only[Option.some.injEq,Prod.mk.injEq,decide_eq_true_eq]at h
  obtain⟨h0,rfl,rfl⟩:=h
  exact ZsD _ _ _ _ h0
 ·cases h
def k58:Ctr:=⟨58,0,fun _ a=>match a with |[.agg (.gen [.int .i64 a, .int .i64 b]), .int .i64 c, .list (.big (.agg [.int .i64, .int .i64, .int .i64, .ints .i64]) fs)]=>some (decide (Zaw fs=true), .tup [.int .i64 (Zid a b c fs), .int .i64 (ZaI a b c fs)],none) |_=>none⟩
theorem ZEt:k58.OK Try.prog:=fun pa args r fr h=>by
 simp only[k58]at h
 split at h
 ·simp only[Option.some.injEq,Prod.mk.injEq,decide_eq_true_eq]at h
  obtain⟨h0,rfl,rfl⟩:=h
  exact ZDL _ _ _ _ h0
 ·cases h
def BOm:List Ctr:=[k17,k59,k58]++BOl
theorem ZGc:Zap Try.prog BOm:=⟨ZEc,⟨ZG6,⟨ZEt,ZbI⟩⟩⟩
end Go.Proofs.Ytjhdnpmojhkbjaa
/- Paths of functions, printed by the explorer (Gx). No condition. -/
namespace Go.Proofs.Ytjhdnpmojhkbjaa
set_option maxRecDepth 100000
set_option linter.unusedVariables false
def ZFR(a:Int)(b:Int)(ds:List Int):AFrame:={ fn:=30,N:=22,env:=[(0,AV.agg (Row.gen [AV.int .i64 a,AV.int .i64 b,AV.list (.ints .i64 ds)]))],todo:=[.code a30.code],defs:=[],rnd:=none,ret:=false,res:=[ARes.tmp 2] }
def ZNO(a:Int)(b:Int)(ds:List Int):List AFrame:=[(ZFR a b ds)]
theorem ZAW(a:Int)(b:Int)(ds:List Int):Zak tab 30 [AV.agg (Row.gen [AV.int .i64 a,AV.int .i64 b,AV.list (.ints .i64 ds)])]=some (ZFR a b ds):=rfl
theorem ZLq(A:Ar)(a b:Int)(ds:List Int):Zaz A tab B5 9 [true] 30 (ZNO a b ds) []=
 some (tr [2,0,0,12,6] [decide (List.length [Zal (Zfi b) 2,Zal (A.le (A.int (A.len ds)) 40) 8,ZaG ds]≤1000000),List.all [AV.int .i64 (Zal (Zfi b) 2),AV.int .i64 (Zal (A.le (A.int (A.len ds)) 40) 8),AV.int .i64 (ZaG ds)] fun x=>AV.bx x&&Nat.beq (Zac A x) 1,decide (List.length ds≤1000000),Zfi a],
  AV.int .i64 (Zau [Zal (Zfi b) 2,Zal (A.le (A.int (A.len ds)) 40) 8,ZaG ds]),none):=by kernel_rfl
theorem ZKE(A:Ar)(a b:Int)(ds:List Int):Zaz A tab B5 9 [false] 30 (ZNO a b ds) []=
 some (tr [2,0,0,12,6] [decide (List.length [2,Zal (A.le (A.int (A.len ds)) 40) 8,ZaG ds]≤1000000),List.all [AV.int .i64 2,AV.int .i64 (Zal (A.le (A.int (A.len ds)) 40) 8),AV.int .i64 (ZaG ds)] fun x=>AV.bx x&&Nat.beq (Zac A x) 1,decide (List.length ds≤1000000),!Zfi a],
  AV.int .i64 (Zau [2,Zal (A.le (A.int (A.len ds)) 40) 8,ZaG ds]),none):=by kernel_rfl
def ZCv(a:Int)(b:Int)(ds:List Int):AFrame:={ fn:=32,N:=20,env:=[(0,AV.agg (Row.gen [AV.int .i64 a,AV.int .i64 b,AV.list (.ints .i64 ds)]))],todo:=[.code a32.code],defs:=[],rnd:=none,ret:=false,res:=[ARes.tmp 2] }
def ZJJ(a:Int)(b:Int)(ds:List Int):List AFrame:=[(ZCv a b ds)]
theorem ZAe(a:Int)(b:Int)(ds:List Int):Zak tab 32 [AV.agg (Row.gen [AV.int .i64 a,AV.int .i64 b,AV.list (.ints .i64 ds)])]=some (ZCv a b ds):=rfl
theorem ZL4(A:Ar)(a b:Int)(ds:List Int):Zaz A tab B5 26 [true,true,true,true,true,true] 32 (ZJJ a b ds) []=
 some (tr [12,7] [A.not (decide (0≤a∧a≤255))],
  AV.int .i64 2,none):=by kernel_rfl
theorem ZLt(A:Ar)(a b:Int)(ds:List Int):Zaz A tab B5 26 [false,false,false,false,false,true] 32 (ZJJ a b ds) []=
 some (tr [2,9,7] [A.not (decide (0≤b∧b≤255)),!A.not (decide (0≤a∧a≤255))],
  AV.int .i64 2,none):=by kernel_rfl
theorem ZJ1(A:Ar)(a b:Int)(ds:List Int):Zaz A tab B5 36 [false,false,false,false,false,false,true] 32 (ZJJ a b ds) []=
 some (tr [2,4,9,7] [A.lt 40 (A.int (A.len ds)),!A.not (decide (0≤b∧b≤255)),!A.not (decide (0≤a∧a≤255))],
  AV.int .i64 8,none):=by kernel_rfl
theorem ZLJ(A:Ar)(a b:Int)(ds:List Int):Zaz A tab B5 40 [false,false,false,false,false,false,false] 32 (ZJJ a b ds) []=
 some (tr [2,2,4,9,7] [decide (List.length ds≤1000000),!A.lt 40 (A.int (A.len ds)),!A.not (decide (0≤b∧b≤255)),!A.not (decide (0≤a∧a≤255))],
  AV.int .i64 (ZaG ds),none):=by kernel_rfl
def ZD2(a:Int)(b:Int)(ds:List Int):AFrame:={ fn:=31,N:=8,env:=[(0,AV.agg (Row.gen [AV.int .i64 a,AV.int .i64 b,AV.list (.ints .i64 ds)]))],todo:=[.code a31.code],defs:=[],rnd:=none,ret:=false,res:=[ARes.cell 2 true 3] }
def ZOR(a:Int)(b:Int)(ds:List Int):List AFrame:=[(ZD2 a b ds)]
theorem ZBe(a:Int)(b:Int)(ds:List Int):Zak tab 31 [AV.agg (Row.gen [AV.int .i64 a,AV.int .i64 b,AV.list (.ints .i64 ds)])]=some (ZD2 a b ds):=rfl
theorem ZL9(A:Ar)(a b:Int)(ds:List Int):Zaz A tab B5 19 [] 31 (ZOR a b ds) []=
 some (tr [5,4] [decide (List.length ds≤4294967296)],
  AV.agg (Row.gen [.int .i64 a, .int .i64 b, .list (.ints .i64 ds)]),none):=by kernel_rfl
def ZHd(ps:List AV):AFrame:={ fn:=29,N:=20,env:=[(0,AV.list (Row.big (Sh.agg [Sh.int .i64,Sh.int .i64,Sh.ints .i64]) ps))],todo:=[.code a29.code],defs:=[],rnd:=none,ret:=false,res:=[ARes.tmp 2] }
def ZOi(ps:List AV):List AFrame:=[(ZHd ps)]
theorem Zzs(ps:List AV):Zak tab 29 [AV.list (Row.big (Sh.agg [Sh.int .i64,Sh.int .i64,Sh.ints .i64]) ps)]=some (ZHd ps):=rfl
def Zev(ps:List AV)(n0:Int):List AFrame:=[{ fn:=29,N:=20,env:=[(0,AV.list (Row.big (Sh.agg [Sh.int .i64,Sh.int .i64,Sh.ints .i64]) ps)),(3,AV.int .i64 n0)],todo:=.code (ACode.gh [] ZEq)::ZKc,defs:=[],rnd:=none,ret:=false,res:=[ARes.tmp 2] }]
def ZdE(ps:List AV)(n0:Int):Zaa:=[]
abbrev Zi5(ps:List AV)(n0:Int):List AFrame×Zaa:=(Zev ps n0,ZdE ps n0)
theorem ZKI(A:Ar)(ps:List AV):Zaz A tab B5 17 [true] 29 (ZOi ps) []=
 some (tr [2,4] [A.lt 22 (A.int (A.lenA ps))],
  AV.bool false,none):=by kernel_rfl
theorem ZKZ(A:Ar)(ps:List AV):Zad A tab B5 21 [false] (ZOi ps) []=
 some (tr [1,4] [!A.lt 22 (A.int (A.lenA ps))],
  Zi5 (ps) (0)):=by kernel_rfl
theorem ZLM(A:Ar)(ps:List AV)(n0:Int):Zaz A tab B5 30 [true,true] 29 (Zev ps n0) (ZdE ps n0)=
 some (tr [2,4,2,4] [A.lt 42 (A.int (A.len ((A.nthA ps (A.nat n0)).cellAt 2).toIs)),Zab (Zab (A.le 0 n0) (Nat.blt (A.nat n0) (A.lenA ps))) true,A.lt n0 (A.int (A.lenA ps))],
  AV.bool false,none):=by kernel_rfl
theorem ZLS(A:Ar)(ps:List AV)(n0:Int):Zad A tab B5 34 [true,false] (Zev ps n0) (ZdE ps n0)=
 some (tr [1,1,4,2,4] [A.inR .i64 (A.add n0 1),!A.lt 42 (A.int (A.len ((A.nthA ps (A.nat n0)).cellAt 2).toIs)),Zab (Zab (A.le 0 n0) (Nat.blt (A.nat n0) (A.lenA ps))) true,A.lt n0 (A.int (A.lenA ps))],
  Zi5 (ps) (A.add n0 1)):=by kernel_rfl
theorem ZLf(A:Ar)(ps:List AV)(n0:Int):Zaz A tab B5 16 [false] 29 (Zev ps n0) (ZdE ps n0)=
 some (tr [2,4] [!A.lt n0 (A.int (A.lenA ps))],
  AV.bool true,none):=by kernel_rfl
def ZDZ(fs:List AV)(gs:List AV):AFrame:={ fn:=38,N:=27,env:=[(0,AV.list (Row.big (Sh.agg [Sh.int .i64,Sh.int .i64,Sh.int .i64,Sh.ints .i64]) fs)),(1,AV.list (Row.big (Sh.agg [Sh.int .i64,Sh.int .i64,Sh.int .i64,Sh.ints .i64]) gs))],todo:=[.code a38.code],defs:=[],rnd:=none,ret:=false,res:=[ARes.tmp 4] }
def ZNX(fs:List AV)(gs:List AV):List AFrame:=[(ZDZ fs gs)]
theorem ZBx(fs:List AV)(gs:List AV):Zak tab 38 [AV.list (Row.big (Sh.agg [Sh.int .i64,Sh.int .i64,Sh.int .i64,Sh.ints .i64]) fs),AV.list (Row.big (Sh.agg [Sh.int .i64,Sh.int .i64,Sh.int .i64,Sh.ints .i64]) gs)]=some (ZDZ fs gs):=rfl
def ZeL(fs gs:List AV)(n0:Int):List AFrame:=[{ fn:=38,N:=27,env:=[(0,AV.list (Row.big (Sh.agg [Sh.int .i64,Sh.int .i64,Sh.int .i64,Sh.ints .i64]) fs)),(1,AV.list (Row.big (Sh.agg [Sh.int .i64,Sh.int .i64,Sh.int .i64,Sh.ints .i64]) gs)),(5,AV.int .i64 n0)],todo:=.code (ACode.gh [] ZGt)::ZK0,defs:=[],rnd:=none,ret:=false,res:=[ARes.tmp 4] }]
def ZdL(fs:List AV)(gs:List AV)(n0:Int):Zaa:=[]
abbrev ZjK(fs:List AV)(gs:List AV)(n0:Int):List AFrame×Zaa:=(ZeL fs gs n0,ZdL fs gs n0)
theorem ZKB(A:Ar)(fs gs:List AV):Zaz A tab B5 19 [true] 38 (ZNX fs gs) []=
 some (tr [2,6] [A.not (A.eq (A.int (A.lenA fs)) (A.int (A.lenA gs)))],
  AV.bool false,none):=by kernel_rfl
theorem ZLa(A:Ar)(fs gs:List AV):Zad A tab B5 23 [false] (ZNX fs gs) []=
 some (tr [1,6] [!A.not (A.eq (A.int (A.lenA fs)) (A.int (A.lenA gs)))],
  ZjK (fs) (gs) (0)):=by kernel_rfl
theorem ZKz(A:Ar)(fs gs:List AV)(n0:Int):Zaz A tab B5 22 [true,true] 38 (ZeL fs gs n0) (ZdL fs gs n0)=
 some (tr [2,1,1,3,2,4] [A.not (decide (AV.toI (AV.cellAt (A.nthA fs (A.nat n0)) 0)=AV.toI (AV.cellAt (A.nthA gs (A.nat n0)) 0)∧AV.toI (AV.cellAt (A.nthA fs (A.nat n0)) 1)=AV.toI (AV.cellAt (A.nthA gs (A.nat n0)) 1)∧AV.toI (AV.cellAt (A.nthA fs (A.nat n0)) 2)=AV.toI (AV.cellAt (A.nthA gs (A.nat n0)) 2)∧AV.toIs (AV.cellAt (A.nthA fs (A.nat n0)) 3)=AV.toIs (AV.cellAt (A.nthA gs (A.nat n0)) 3))),decide (List.length ((A.nthA fs (A.nat n0)).cellAt 3).toIs≤1000000),Zab (Zab (A.le 0 n0) (Nat.blt (A.nat n0) (A.lenA gs))) true,Zab (Zab (A.le 0 n0) (Nat.blt (A.nat n0) (A.lenA fs))) true,A.lt n0 (A.int (A.lenA fs))],
  AV.bool false,none):=by kernel_rfl
theorem ZNn(A:Ar)(fs gs:List AV)(n0:Int):Zad A tab B5 26 [true,false] (ZeL fs gs n0) (ZdL fs gs n0)=
 some (tr [1,1,1,1,3,2,4] [A.inR .i64 (A.add n0 1),!A.not (decide (AV.toI (AV.cellAt (A.nthA fs (A.nat n0)) 0)=AV.toI (AV.cellAt (A.nthA gs (A.nat n0)) 0)∧AV.toI (AV.cellAt (A.nthA fs (A.nat n0)) 1)=AV.toI (AV.cellAt (A.nthA gs (A.nat n0)) 1)∧AV.toI (AV.cellAt (A.nthA fs (A.nat n0)) 2)=AV.toI (AV.cellAt (A.nthA gs (A.nat n0)) 2)∧AV.toIs (AV.cellAt (A.nthA fs (A.nat n0)) 3)=AV.toIs (AV.cellAt (A.nthA gs (A.nat n0)) 3))),decide (List.length ((A.nthA fs (A.nat n0)).cellAt 3).toIs≤1000000),Zab (Zab (A.le 0 n0) (Nat.blt (A.nat n0) (A.lenA gs))) true,Zab (Zab (A.le 0 n0) (Nat.blt (A.nat n0) (A.lenA fs))) true,A.lt n0 (A.int (A.lenA fs))],
  ZjK (fs) (gs) (A.add n0 1)):=by kernel_rfl
theorem ZMi(A:Ar)(fs gs:List AV)(n0:Int):Zaz A tab B5 16 [false] 38 (ZeL fs gs n0) (ZdL fs gs n0)=
 some (tr [2,4] [!A.lt n0 (A.int (A.lenA fs))],
  AV.bool true,none):=by kernel_rfl
end Go.Proofs.Ytjhdnpmojhkbjaa
/- Contracts as a list. No condition. -/
namespace Go.Proofs.Ytjhdnpmojhkbjaa
def pkE(a b:Int)(ds:List Int):Int:=if Zfi a=true∧Zfi b=true then(if 40<ds.length then 8 else ZaG ds)else 2
theorem Zta(a b:Int)(ds:List Int)(h:ds.length≤1000000):ZaH Try.prog 30 [.agg (.gen [.int .i64 a, .int .i64 b, .list (.ints .i64 ds)])] (.int .i64 (pkE a b ds)) none:=
 start (ZAW a b ds) fun C hC=>by
  by_cases h1:Zfi a=true
  ·refine fin hC Zdb (ZLq std a b ds) (by simp[h1,h,AV.bx,Zac]) ?_ rfl
   by_cases h2:Zfi b=true
   ·rw[pkE,if_pos ⟨h1,h2⟩,h2]
    by_cases h3:40<ds.length
    ·have:std.le (std.int (std.len ds)) 40=false:=by simp;omega
     rw[this,if_pos h3];simp[Zau]
    ·have:std.le (std.int (std.len ds)) 40=true:=by simp;omega
     rw[this,if_neg h3];simp[Zau];exact fun h=>h.symm
   ·rw[pkE,if_neg (fun h=>h2 h.2)]
    have:Zfi b=false:=by simpa using h2
    rw[this];simp[Zau]
  ·refine fin hC Zdb (ZKE std a b ds) (by simp[h,AV.bx,Zac];simpa using h1) ?_ rfl
   rw[pkE,if_neg (fun h=>h1 h.1)];simp[Zau]
theorem ZtT(a b:Int)(ds:List Int)(h:ds.length≤1000000):ZaH Try.prog 32 [.agg (.gen [.int .i64 a, .int .i64 b, .list (.ints .i64 ds)])] (.int .i64 (pkE a b ds)) none:=
 start (ZAe a b ds) fun C hC=>by
  by_cases h1:0≤a∧a≤255
  ·by_cases h2:0≤b∧b≤255
   ·rw[pkE,if_pos ⟨decide_eq_true h1,decide_eq_true h2⟩]
    by_cases h3:40<ds.length
    ·exact fin hC Zdb (ZJ1 std a b ds) (by simp[h1,h2];omega) (by rw[if_pos h3]) rfl
    ·exact fin hC Zdb (ZLJ std a b ds) (by simp[h1,h2,h];omega) (by rw[if_neg h3]) rfl
   ·rw[pkE,if_neg (fun h=>h2 (of_decide_eq_true h.2))]
    exact fin hC Zdb (ZLt std a b ds) (by simp only[decide_eq_false h2];simp[h1]) rfl rfl
  ·rw[pkE,if_neg (fun h=>h1 (of_decide_eq_true h.1))]
   exact fin hC Zdb (ZL4 std a b ds) (by simp only[decide_eq_false h1];simp) rfl rfl
theorem Zun(a b:Int)(ds:List Int)(h:ds.length≤4294967296):ZaH Try.prog 31 [.agg (.gen [.int .i64 a, .int .i64 b, .list (.ints .i64 ds)])] (.agg (.gen [.int .i64 a, .int .i64 b, .list (.ints .i64 ds)])) none:=
 start (ZBe a b ds) fun C hC=>fin hC Zdb (ZL9 std a b ds) (by simp[h]) rfl rfl
def kI(p:AV):Int:=(p.cellAt 0).toI
def kC(p:AV):Int:=(p.cellAt 1).toI
def kD(p:AV):List Int:=(p.cellAt 2).toIs
def ZCa:List AV→Bool
 |[]=>true
 |p::ps=>decide ((kD p).length≤42)&&ZCa ps
def ZbW(ps:List AV):Bool:=decide (ps.length≤22)&&ZCa ps
theorem l29{C:Ctx}(hC:C.P=Try.prog)(ps:List AV)(hlen:ps.length≤1000000):∀(d i:Nat),ps.length-i=d→i≤ps.length→
 Ev C (Zev ps i) (ZdE ps i) (ZdV 29 (.bool (ZCa (ps.drop i))) none):=by
 intro d
 induction d with
 |zero=>
  intro i hd hi
  exact fin hC Zdb (ZLf std ps i) (by simp;omega) (by rw[List.drop_of_length_le (by omega)];rfl) rfl
 |succ d ih=>
  intro i hd hi
  have hlt:i<ps.length:=by omega
  have e1:std.nthA ps (std.nat (i:Int))=ps[i]:=by simp[hlt]
  have g1:(ps[i].cellAt 2).toIs=kD ps[i]:=rfl
  rw[List.drop_eq_getElem_cons hlt,ZCa]
  by_cases h:(kD ps[i]).length≤42
  ·rw[decide_eq_true h,Bool.true_and]
   exact go hC Zdb (ZLS std ps i) (by simp only[e1,g1];simp[hlt];omega) (ih (i+1) (by omega) (by omega))
  ·rw[decide_eq_false h,Bool.false_and]
   exact fin hC Zdb (ZLM std ps i) (by simp only[e1,g1];simp[hlt];omega) rfl rfl
theorem ZuM(ps:List AV):ZaH Try.prog 29 [.list (.big (.agg [.int .i64, .int .i64, .ints .i64]) ps)] (.bool (ZbW ps)) none:=
 start (Zzs ps) fun C hC=>by
  by_cases h:ps.length≤22
  ·rw[ZbW,decide_eq_true h,Bool.true_and]
   exact go hC Zdb (ZKZ std ps) (by simp;omega) (l29 hC ps (by omega) ps.length 0 (by omega) (by omega))
  ·rw[ZbW,decide_eq_false h,Bool.false_and]
   exact fin hC Zdb (ZKI std ps) (by simp;omega) rfl rfl
def frV(f:AV):Int×Int×Int×List Int:=((f.cellAt 0).toI,(f.cellAt 1).toI,(f.cellAt 2).toI,(f.cellAt 3).toIs)
def Zw8(fs:List AV):Bool:=decide (fs.length≤1000000)&&fs.all fun f=>decide ((frV f).2.2.2.length≤1000000)
theorem l38{C:Ctx}(hC:C.P=Try.prog)(xs ys:List AV)(hl:xs.length=ys.length)(hlen:xs.length≤1000000)(hk:∀f∈xs,(frV f).2.2.2.length≤1000000):∀(d i:Nat),xs.length-i=d→i≤xs.length→(xs.take i).map frV=(ys.take i).map frV→
 Ev C (ZeL xs ys i) (ZdL xs ys i) (ZdV 38 (.bool (decide (xs.map frV=ys.map frV))) none):=by
 intro d
 induction d with
 |zero=>
  intro i hd hi ht
  have hi:i=xs.length:=by omega
  have he:xs.map frV=ys.map frV:=by rw[hi]at ht;rw[List.take_length,hl,List.take_length]at ht;exact ht
  exact fin hC Zdb (ZMi std xs ys i) (by simp;omega) (by simp[he]) rfl
 |succ d ih=>
  intro i hd hi ht
  have hlt:i<xs.length:=by omega
  have hlt2:i<ys.length:=by omega
  have e1:std.nthA xs (std.nat (i:Int))=xs[i]:=by simp[hlt]
  have e2:std.nthA ys (std.nat (i:Int))=ys[i]:=by simp[hlt2]
  have hb:(xs[i].cellAt 3).toIs.length≤1000000:=hk xs[i] (by simp)
  by_cases h1:frV xs[i]=frV ys[i]
  ·have h2:=h1
   simp only[frV,Prod.mk.injEq]at h2
   refine go hC Zdb (ZNn std xs ys i) ?_ (ih (i+1) (by omega) (by omega) (by
    rw[List.take_succ_eq_append_getElem hlt,List.take_succ_eq_append_getElem hlt2,List.map_append,List.map_append,ht,List.map_singleton,List.map_singleton,h1]))
   simp only[e1,e2,decide_eq_true h2,decide_eq_true hb]
   simp[hlt,hlt2]
   omega
  ·have h2:¬((xs[i].cellAt 0).toI=(ys[i].cellAt 0).toI∧(xs[i].cellAt 1).toI=(ys[i].cellAt 1).toI∧(xs[i].cellAt 2).toI=(ys[i].cellAt 2).toI∧(xs[i].cellAt 3).toIs=(ys[i].cellAt 3).toIs):=fun h=>h1 (by simp only[frV,Prod.mk.injEq];exact h)
   refine fin hC Zdb (ZKz std xs ys i) ?_ ?_ rfl
   ·simp only[e1,e2,decide_eq_false h2,decide_eq_true hb]
    simp[hlt,hlt2]
   ·have:xs.map frV≠ys.map frV:=fun e=>h1 (by
     have:=congrArg (fun l=>l[i]?) e
     simpa[hlt,hlt2]using this)
    simp[this]
theorem ZsT(xs ys:List AV)(h:Zw8 xs=true):ZaH Try.prog 38 [.list (.big (.agg [.int .i64, .int .i64, .int .i64, .ints .i64]) xs), .list (.big (.agg [.int .i64, .int .i64, .int .i64, .ints .i64]) ys)] (.bool (decide (xs.map frV=ys.map frV))) none:=
 start (ZBx xs ys) fun C hC=>by
  rw[Zw8,Bool.and_eq_true,decide_eq_true_eq,List.all_eq_true]at h
  by_cases hl:xs.length=ys.length
  ·exact go hC Zdb (ZLa std xs ys) (by simp;omega) (l38 hC xs ys hl h.1 (fun f hf=>of_decide_eq_true (h.2 f hf)) xs.length 0 (by omega) (by omega) rfl)
  ·refine fin hC Zdb (ZKB std xs ys) (by simp;omega) ?_ rfl
   have:xs.map frV≠ys.map frV:=fun e=>hl (by have:=congrArg List.length e;simpa using this)
   simp[this]
def k30:Ctr:=⟨30,0,fun _ a=>match a with |[.agg (.gen [.int .i64 a, .int .i64 b, .list (.ints .i64 ds)])]=>some (decide (ds.length≤1000000), .int .i64 (pkE a b ds),none) |_=>none⟩
theorem ZIX:k30.OK Try.prog:=fun pa args r fr h=>by
 simp only[k30]at h
 split at h
 ·simp only[Option.some.injEq,Prod.mk.injEq,decide_eq_true_eq]at h
  obtain⟨h0,rfl,rfl⟩:=h
  exact Zta _ _ _ h0
 ·cases h
def k32:Ctr:=⟨32,0,fun _ a=>match a with |[.agg (.gen [.int .i64 a, .int .i64 b, .list (.ints .i64 ds)])]=>some (decide (ds.length≤1000000), .int .i64 (pkE a b ds),none) |_=>none⟩
theorem ZId:k32.OK Try.prog:=fun pa args r fr h=>by
 simp only[k32]at h
 split at h
 ·simp only[Option.some.injEq,Prod.mk.injEq,decide_eq_true_eq]at h
  obtain⟨h0,rfl,rfl⟩:=h
  exact ZtT _ _ _ h0
 ·cases h
def k31:Ctr:=⟨31,0,fun _ a=>match a with |[.agg (.gen [.int .i64 a, .int .i64 b, .list (.ints .i64 ds)])]=>some (decide (ds.length≤4294967296), .agg (.gen [.int .i64 a, .int .i64 b, .list (.ints .i64 ds)]),none) |_=>none⟩
theorem ZHb:k31.OK Try.prog:=fun pa args r fr h=>by
 simp only[k31]at h
 split at h
 ·simp only[Option.some.injEq,Prod.mk.injEq,decide_eq_true_eq]at h
  obtain⟨h0,rfl,rfl⟩:=h
  exact Zun _ _ _ h0
 ·cases h
def k29:Ctr:=⟨29,0,fun _ a=>match a with |[.list (.big (.agg [.int .i64, .int .i64, .ints .i64]) ps)]=>some (true, .bool (ZbW ps),none) |_=>none⟩
theorem Zv0:k29.OK Try.prog:=fun pa args r fr h=>by
 simp only[k29]at h
 split at h
 ·cases h
  exact ZuM _
 ·cases h
def k38:Ctr:=⟨38,0,fun _ a=>match a with |[.list (.big (.agg [.int .i64, .int .i64, .int .i64, .ints .i64]) xs), .list (.big (.agg [.int .i64, .int .i64, .int .i64, .ints .i64]) ys)]=>some (decide (Zw8 xs=true), .bool (decide (xs.map frV=ys.map frV)),none) |_=>none⟩
theorem Zvu:k38.OK Try.prog:=fun pa args r fr h=>by
 simp only[k38]at h
 split at h
 ·simp only[Option.some.injEq,Prod.mk.injEq,decide_eq_true_eq]at h
  obtain⟨h0,rfl,rfl⟩:=h
  exact ZsT _ _ h0
 ·cases h
def BD1:List Ctr:=[k30,k32,k31,k29,k38]++B5
theorem Zbt:Zap Try.prog BD1:=⟨ZIX,⟨ZId,⟨ZHb,⟨Zv0,⟨Zvu,Zdb⟩⟩⟩⟩⟩
end Go.Proofs.Ytjhdnpmojhkbjaa
/- Paths of functions, printed by the explorer (Gx). No condition. -/
namespace Go.Proofs.Ytjhdnpmojhkbjaa
set_option maxRecDepth 100000
set_option linter.unusedVariables false
def Zv7(ps:List AV):AFrame:={ fn:=129,N:=21,env:=[(0,AV.list (Row.big (Sh.agg [Sh.int .i64,Sh.int .i64,Sh.ints .i64]) ps)),(1,AV.fn 30 [])],todo:=[.code a129.code],defs:=[],rnd:=none,ret:=false,res:=[ARes.tmp 4] }
def ZMR(ps:List AV):List AFrame:=[(Zv7 ps)]
theorem Zuw(ps:List AV):Zak tab 129 [AV.list (Row.big (Sh.agg [Sh.int .i64,Sh.int .i64,Sh.ints .i64]) ps),AV.fn 30 []]=some (Zv7 ps):=rfl
def ZcQ(ps:List AV)(n0 n1:Int):List AFrame:=[{ fn:=129,N:=21,env:=[(1,AV.fn 30 []),(8,AV.list (Row.big (Sh.agg [Sh.int .i64,Sh.int .i64,Sh.ints .i64]) ps)),(9,AV.int .i64 n0),(10,AV.int .i64 n1)],todo:=.code (ACode.gh [] Zwx)::ZFI,defs:=[],rnd:=none,ret:=false,res:=[ARes.tmp 4] }]
def Zcp(ps:List AV)(n0:Int)(n1:Int):Zaa:=[]
abbrev ZgZ(ps:List AV)(n0:Int)(n1:Int):List AFrame×Zaa:=(ZcQ ps n0 n1,Zcp ps n0 n1)
theorem ZIt(A:Ar)(ps:List AV):Zad A tab BD1 14 [] (ZMR ps) []=
 some (tr [4] [],
  ZgZ (ps) (A.int (A.lenA ps)) (0)):=by kernel_rfl
theorem ZHz(A:Ar)(ps:List AV)(n0 n1:Int):Zaz A tab BD1 36 [true,true] 129 (ZcQ ps n0 n1) (Zcp ps n0 n1)=
 some (tr [3,3,5,0,1] [A.not (A.eq (pkE ((A.nthA ps (A.nat n1)).cellAt 0).toI ((A.nthA ps (A.nat n1)).cellAt 1).toI ((A.nthA ps (A.nat n1)).cellAt 2).toIs) 0),decide (List.length ((A.nthA ps (A.nat n1)).cellAt 2).toIs≤1000000),Zab (Zab (A.le 0 n1) (Nat.blt (A.nat n1) (A.lenA ps))) true,A.lt n1 n0],
  AV.int .i64 (pkE ((A.nthA ps (A.nat n1)).cellAt 0).toI ((A.nthA ps (A.nat n1)).cellAt 1).toI ((A.nthA ps (A.nat n1)).cellAt 2).toIs),none):=by kernel_rfl
theorem ZGk(A:Ar)(ps:List AV)(n0 n1:Int):Zad A tab BD1 38 [true,false] (ZcQ ps n0 n1) (Zcp ps n0 n1)=
 some (tr [1,0,3,5,0,1] [A.inR .i64 (A.add n1 1),!A.not (A.eq (pkE ((A.nthA ps (A.nat n1)).cellAt 0).toI ((A.nthA ps (A.nat n1)).cellAt 1).toI ((A.nthA ps (A.nat n1)).cellAt 2).toIs) 0),decide (List.length ((A.nthA ps (A.nat n1)).cellAt 2).toIs≤1000000),Zab (Zab (A.le 0 n1) (Nat.blt (A.nat n1) (A.lenA ps))) true,A.lt n1 n0],
  ZgZ (ps) (n0) (A.add n1 1)):=by kernel_rfl
theorem ZDc(A:Ar)(ps:List AV)(n0 n1:Int):Zaz A tab BD1 13 [false] 129 (ZcQ ps n0 n1) (Zcp ps n0 n1)=
 some (tr [2,1] [!A.lt n1 n0],
  AV.int .i64 0,none):=by kernel_rfl
def ZET(ps:List AV):AFrame:={ fn:=36,N:=22,env:=[(0,AV.list (Row.big (Sh.agg [Sh.int .i64,Sh.int .i64,Sh.ints .i64]) ps))],todo:=[.code a36.code],defs:=[],rnd:=none,ret:=false,res:=[ARes.tmp 2] }
def ZNM(ps:List AV):List AFrame:=[(ZET ps)]
theorem ZBR(ps:List AV):Zak tab 36 [AV.list (Row.big (Sh.agg [Sh.int .i64,Sh.int .i64,Sh.ints .i64]) ps)]=some (ZET ps):=rfl
def ZeK(ps:List AV)(n0:Int):List AFrame:=[{ fn:=36,N:=22,env:=[(0,AV.list (Row.big (Sh.agg [Sh.int .i64,Sh.int .i64,Sh.ints .i64]) ps)),(3,AV.int .i64 n0)],todo:=.code (ACode.gh [] ZEh)::ZMM,defs:=[],rnd:=none,ret:=false,res:=[ARes.tmp 2] }]
def ZdQ(ps:List AV)(n0:Int):Zaa:=[]
abbrev Zjr(ps:List AV)(n0:Int):List AFrame×Zaa:=(ZeK ps n0,ZdQ ps n0)
theorem ZKK(A:Ar)(ps:List AV):Zaz A tab BD1 17 [true] 36 (ZNM ps) []=
 some (tr [2,4] [A.lt 20 (A.int (A.lenA ps))],
  AV.int .i64 8,none):=by kernel_rfl
theorem ZLg(A:Ar)(ps:List AV):Zad A tab BD1 21 [false] (ZNM ps) []=
 some (tr [1,4] [!A.lt 20 (A.int (A.lenA ps))],
  Zjr (ps) (0)):=by kernel_rfl
theorem ZNh(A:Ar)(ps:List AV)(n0:Int):Zaz A tab BD1 34 [true,true] 36 (ZeK ps n0) (ZdQ ps n0)=
 some (tr [3,3,1,2,4] [A.not (A.eq (pkE ((A.nthA ps (A.nat n0)).cellAt 0).toI ((A.nthA ps (A.nat n0)).cellAt 1).toI ((A.nthA ps (A.nat n0)).cellAt 2).toIs) 0),decide (List.length ((A.nthA ps (A.nat n0)).cellAt 2).toIs≤1000000),Zab (Zab (A.le 0 n0) (Nat.blt (A.nat n0) (A.lenA ps))) true,A.lt n0 (A.int (A.lenA ps))],
  AV.int .i64 (pkE ((A.nthA ps (A.nat n0)).cellAt 0).toI ((A.nthA ps (A.nat n0)).cellAt 1).toI ((A.nthA ps (A.nat n0)).cellAt 2).toIs),none):=by kernel_rfl
theorem ZNx(A:Ar)(ps:List AV)(n0:Int):Zad A tab BD1 37 [true,false] (ZeK ps n0) (ZdQ ps n0)=
 some (tr [1,1,3,1,2,4] [A.inR .i64 (A.add n0 1),!A.not (A.eq (pkE ((A.nthA ps (A.nat n0)).cellAt 0).toI ((A.nthA ps (A.nat n0)).cellAt 1).toI ((A.nthA ps (A.nat n0)).cellAt 2).toIs) 0),decide (List.length ((A.nthA ps (A.nat n0)).cellAt 2).toIs≤1000000),Zab (Zab (A.le 0 n0) (Nat.blt (A.nat n0) (A.lenA ps))) true,A.lt n0 (A.int (A.lenA ps))],
  Zjr (ps) (A.add n0 1)):=by kernel_rfl
theorem ZMA(A:Ar)(ps:List AV)(n0:Int):Zaz A tab BD1 16 [false] 36 (ZeK ps n0) (ZdQ ps n0)=
 some (tr [2,4] [!A.lt n0 (A.int (A.lenA ps))],
  AV.int .i64 0,none):=by kernel_rfl
def ZEC(ps:List AV):AFrame:={ fn:=34,N:=20,env:=[(0,AV.list (Row.big (Sh.agg [Sh.int .i64,Sh.int .i64,Sh.ints .i64]) ps))],todo:=[.code a34.code],defs:=[],rnd:=none,ret:=false,res:=[ARes.tmp 2] }
def ZOZ(ps:List AV):List AFrame:=[(ZEC ps)]
theorem Zqp(ps:List AV):Zak tab 34 [AV.list (Row.big (Sh.agg [Sh.int .i64,Sh.int .i64,Sh.ints .i64]) ps)]=some (ZEC ps):=rfl
def ZhS(ps:List AV):List AFrame:=[{ fn:=34,N:=20,env:=[(0,AV.list (Row.big (Sh.agg [Sh.int .i64,Sh.int .i64,Sh.ints .i64]) ps)),(3,AV.nils),(4,AV.int .i64 0)],todo:=.code (ACode.gh [] ZAq)::ZDU,defs:=[],rnd:=none,ret:=false,res:=[ARes.tmp 2] }]
def ZgG(ps:List AV):Zaa:=[]
abbrev Zpx(ps:List AV):List AFrame×Zaa:=(ZhS ps,ZgG ps)
def ZfM(ps:List AV)(n0:Int)(x1:List AV):List AFrame:=[{ fn:=34,N:=20,env:=[(0,AV.list (Row.big (Sh.agg [Sh.int .i64,Sh.int .i64,Sh.ints .i64]) ps)),(3,AV.row 34019 0),(4,AV.int .i64 n0)],todo:=.code (ACode.gh [] ZAq)::ZDU,defs:=[],rnd:=none,ret:=false,res:=[ARes.tmp 2] }]
def Zff(ps:List AV)(n0:Int)(x1:List AV):Zaa:=[(34019,{ base:=0,blks:=[Blk.row 57 3 (Row.big (Sh.agg [Sh.int .i64,Sh.int .i64,Sh.ints .i64]) x1)] })]
abbrev Zi8(ps:List AV)(n0:Int)(x1:List AV):List AFrame×Zaa:=(ZfM ps n0 x1,Zff ps n0 x1)
theorem ZFw(A:Ar)(ps:List AV):Zad A tab BD1 16 [] (ZOZ ps) []=
 some (tr [3] [],
  Zpx (ps)):=by kernel_rfl
theorem ZL7(A:Ar)(ps:List AV):Zad A tab BD1 32 [true] (ZhS ps) (ZgG ps)=
 some (tr [1,2,0,0,1,3,4] [A.inR .i64 (A.add 0 1),Zab (Nat.ble (A.lenA [AV.agg (Row.gen [.int .i64 ((A.nthA ps (A.nat 0)).cellAt 0).toI, .int .i64 ((A.nthA ps (A.nat 0)).cellAt 1).toI, .list (.ints .i64 ((A.nthA ps (A.nat 0)).cellAt 2).toIs)])]) 4294967296) (Nat.blt 0 (A.lenA [AV.agg (Row.gen [.int .i64 ((A.nthA ps (A.nat 0)).cellAt 0).toI, .int .i64 ((A.nthA ps (A.nat 0)).cellAt 1).toI, .list (.ints .i64 ((A.nthA ps (A.nat 0)).cellAt 2).toIs)])])),List.all [AV.agg (Row.gen [.int .i64 ((A.nthA ps (A.nat 0)).cellAt 0).toI, .int .i64 ((A.nthA ps (A.nat 0)).cellAt 1).toI, .list (.ints .i64 ((A.nthA ps (A.nat 0)).cellAt 2).toIs)])] fun x=>AV.bx x&&Nat.beq (Zac A x) 3,decide (List.length ((A.nthA ps (A.nat 0)).cellAt 2).toIs≤4294967296),Zab (Zab (A.le 0 0) (Nat.blt (A.nat 0) (A.lenA ps))) true,A.lt 0 (A.int (A.lenA ps))],
  Zi8 (ps) (A.add 0 1) ([AV.agg (Row.gen [.int .i64 ((A.nthA ps (A.nat 0)).cellAt 0).toI, .int .i64 ((A.nthA ps (A.nat 0)).cellAt 1).toI, .list (.ints .i64 ((A.nthA ps (A.nat 0)).cellAt 2).toIs)])])):=by kernel_rfl
theorem ZJ6(A:Ar)(ps:List AV):Zaz A tab BD1 17 [false] 34 (ZhS ps) (ZgG ps)=
 some (tr [3,4] [!A.lt 0 (A.int (A.lenA ps))],
  AV.nils,none):=by kernel_rfl
theorem ZMn(A:Ar)(ps:List AV)(n0:Int)(x1:List AV):Zad A tab BD1 32 [true] (ZfM ps n0 x1) (Zff ps n0 x1)=
 some (tr [1,2,0,0,1,3,4] [A.inR .i64 (A.add n0 1),Nat.ble (A.lenA x1+A.lenA [AV.agg (Row.gen [.int .i64 ((A.nthA ps (A.nat n0)).cellAt 0).toI, .int .i64 ((A.nthA ps (A.nat n0)).cellAt 1).toI, .list (.ints .i64 ((A.nthA ps (A.nat n0)).cellAt 2).toIs)])]) 4294967296,List.all [AV.agg (Row.gen [.int .i64 ((A.nthA ps (A.nat n0)).cellAt 0).toI, .int .i64 ((A.nthA ps (A.nat n0)).cellAt 1).toI, .list (.ints .i64 ((A.nthA ps (A.nat n0)).cellAt 2).toIs)])] fun x=>AV.bx x&&Nat.beq (Zac A x) 3,decide (List.length ((A.nthA ps (A.nat n0)).cellAt 2).toIs≤4294967296),Zab (Zab (A.le 0 n0) (Nat.blt (A.nat n0) (A.lenA ps))) true,A.lt n0 (A.int (A.lenA ps))],
  Zi8 (ps) (A.add n0 1) (A.appA x1 [AV.agg (Row.gen [.int .i64 ((A.nthA ps (A.nat n0)).cellAt 0).toI, .int .i64 ((A.nthA ps (A.nat n0)).cellAt 1).toI, .list (.ints .i64 ((A.nthA ps (A.nat n0)).cellAt 2).toIs)])])):=by kernel_rfl
theorem ZMT(A:Ar)(ps:List AV)(n0:Int)(x1:List AV):Zaz A tab BD1 17 [false] 34 (ZfM ps n0 x1) (Zff ps n0 x1)=
 some (tr [3,4] [!A.lt n0 (A.int (A.lenA ps))],
  AV.row 0 0,some { e:=57,sz:=3,r:=Row.big (.agg [.int .i64, .int .i64, .ints .i64]) x1 }):=by kernel_rfl
def ZE9(ps:List AV):AFrame:={ fn:=97,N:=34,env:=[(0,AV.list (Row.big (Sh.agg [Sh.int .i64,Sh.int .i64,Sh.ints .i64]) ps))],todo:=[.code a97.code],defs:=[],rnd:=none,ret:=false,res:=[ARes.tmp 2,ARes.tmp 3] }
def ZP6(ps:List AV):List AFrame:=[(ZE9 ps)]
theorem ZrQ(ps:List AV):Zak tab 97 [AV.list (Row.big (Sh.agg [Sh.int .i64,Sh.int .i64,Sh.ints .i64]) ps)]=some (ZE9 ps):=rfl
def ZiB(ps:List AV)(n0:Int):List AFrame:=[{ fn:=97,N:=34,env:=[(2,AV.nils),(3,AV.nils),(6,AV.list (Row.big (Sh.agg [Sh.int .i64,Sh.int .i64,Sh.ints .i64]) ps)),(7,AV.int .i64 n0),(8,AV.int .i64 0)],todo:=.code (ACode.gh [] Zxe)::ZEp,defs:=[],rnd:=none,ret:=false,res:=[ARes.tmp 2,ARes.tmp 3] }]
def Zgq(ps:List AV)(n0:Int):Zaa:=[]
abbrev ZpG(ps:List AV)(n0:Int):List AFrame×Zaa:=(ZiB ps n0,Zgq ps n0)
def ZfX(ps:List AV)(n0 n1:Int)(l2 l3:List Int):List AFrame:=[{ fn:=97,N:=34,env:=[(2,AV.row 97031 0),(3,AV.row 97017 0),(6,AV.list (Row.big (Sh.agg [Sh.int .i64,Sh.int .i64,Sh.ints .i64]) ps)),(7,AV.int .i64 n0),(8,AV.int .i64 n1)],todo:=.code (ACode.gh [] Zxe)::ZEp,defs:=[],rnd:=none,ret:=false,res:=[ARes.tmp 2,ARes.tmp 3] }]
def ZeR(ps:List AV)(n0:Int)(n1:Int)(l2:List Int)(l3:List Int):Zaa:=[(97017,{ base:=0,blks:=[Blk.row 3 1 (.ints .i64 l2)] }),(97031,{ base:=0,blks:=[Blk.row 3 1 (.ints .i64 l3)] })]
abbrev Zjg(ps:List AV)(n0:Int)(n1:Int)(l2:List Int)(l3:List Int):List AFrame×Zaa:=(ZfX ps n0 n1 l2 l3,ZeR ps n0 n1 l2 l3)
theorem ZIa(A:Ar)(ps:List AV):Zad A tab BD1 15 [] (ZP6 ps) []=
 some (tr [5] [],
  ZpG (ps) (A.int (A.lenA ps))):=by kernel_rfl
theorem ZLi(A:Ar)(ps:List AV)(n0:Int):Zad A tab BD1 55 [true] (ZiB ps n0) (Zgq ps n0)=
 some (tr [1,1,4,0,9,0,6,0,1] [A.inR .i64 (A.add 0 1),Nat.ble (A.len [AV.toI (AV.cellAt (A.nthA ps (A.nat 0)) 0),AV.toI (AV.cellAt (A.nthA ps (A.nat 0)) 1),A.int (A.len ((A.nthA ps (A.nat 0)).cellAt 2).toIs)]+A.len ((A.nthA ps (A.nat 0)).cellAt 2).toIs) 4294967296,Zab (Nat.ble (A.len [AV.toI (AV.cellAt (A.nthA ps (A.nat 0)) 0),AV.toI (AV.cellAt (A.nthA ps (A.nat 0)) 1),A.int (A.len ((A.nthA ps (A.nat 0)).cellAt 2).toIs)]) 4294967296) (Nat.blt 0 (A.len [AV.toI (AV.cellAt (A.nthA ps (A.nat 0)) 0),AV.toI (AV.cellAt (A.nthA ps (A.nat 0)) 1),A.int (A.len ((A.nthA ps (A.nat 0)).cellAt 2).toIs)])),List.all [AV.int .i64 ((A.nthA ps (A.nat 0)).cellAt 0).toI,AV.int .i64 ((A.nthA ps (A.nat 0)).cellAt 1).toI,AV.int .i64 (A.int (A.len ((A.nthA ps (A.nat 0)).cellAt 2).toIs))] fun x=>AV.bx x&&Nat.beq (Zac A x) 1,Zab (Nat.ble (A.len [A.int 0]) 4294967296) (Nat.blt 0 (A.len [A.int 0])),List.all [AV.int .i64 (A.int 0)] fun x=>AV.bx x&&Nat.beq (Zac A x) 1,Zab (Zab (A.le 0 0) (Nat.blt (A.nat 0) (A.lenA ps))) true,A.lt 0 n0],
  Zjg (ps) (n0) (A.add 0 1) ([A.int 0]) (A.app [AV.toI (AV.cellAt (A.nthA ps (A.nat 0)) 0),AV.toI (AV.cellAt (A.nthA ps (A.nat 0)) 1),A.int (A.len ((A.nthA ps (A.nat 0)).cellAt 2).toIs)] ((A.nthA ps (A.nat 0)).cellAt 2).toIs)):=by kernel_rfl
theorem ZKM(A:Ar)(ps:List AV)(n0:Int):Zaz A tab BD1 16 [false] 97 (ZiB ps n0) (Zgq ps n0)=
 some (tr [5,1] [!A.lt 0 n0],
  AV.tup [AV.nils,AV.nils],none):=by kernel_rfl
theorem ZK2(A:Ar)(ps:List AV)(n0 n1:Int)(l2 l3:List Int):Zad A tab BD1 55 [true] (ZfX ps n0 n1 l2 l3) (ZeR ps n0 n1 l2 l3)=
 some (tr [1,1,4,0,9,0,6,0,1] [A.inR .i64 (A.add n1 1),Nat.ble (A.len (A.app l3 [AV.toI (AV.cellAt (A.nthA ps (A.nat n1)) 0),AV.toI (AV.cellAt (A.nthA ps (A.nat n1)) 1),A.int (A.len ((A.nthA ps (A.nat n1)).cellAt 2).toIs)])+A.len ((A.nthA ps (A.nat n1)).cellAt 2).toIs) 4294967296,Nat.ble (A.len l3+A.len [AV.toI (AV.cellAt (A.nthA ps (A.nat n1)) 0),AV.toI (AV.cellAt (A.nthA ps (A.nat n1)) 1),A.int (A.len ((A.nthA ps (A.nat n1)).cellAt 2).toIs)]) 4294967296,List.all [AV.int .i64 ((A.nthA ps (A.nat n1)).cellAt 0).toI,AV.int .i64 ((A.nthA ps (A.nat n1)).cellAt 1).toI,AV.int .i64 (A.int (A.len ((A.nthA ps (A.nat n1)).cellAt 2).toIs))] fun x=>AV.bx x&&Nat.beq (Zac A x) 1,Nat.ble (A.len l2+A.len [A.int (A.len l3)]) 4294967296,List.all [AV.int .i64 (A.int (A.len l3))] fun x=>AV.bx x&&Nat.beq (Zac A x) 1,Zab (Zab (A.le 0 n1) (Nat.blt (A.nat n1) (A.lenA ps))) true,A.lt n1 n0],
  Zjg (ps) (n0) (A.add n1 1) (A.app l2 [A.int (A.len l3)]) (A.app (A.app l3 [AV.toI (AV.cellAt (A.nthA ps (A.nat n1)) 0),AV.toI (AV.cellAt (A.nthA ps (A.nat n1)) 1),A.int (A.len ((A.nthA ps (A.nat n1)).cellAt 2).toIs)]) ((A.nthA ps (A.nat n1)).cellAt 2).toIs)):=by kernel_rfl
theorem ZKV(A:Ar)(ps:List AV)(n0 n1:Int)(l2 l3:List Int):Zaz A tab BD1 16 [false] 97 (ZfX ps n0 n1 l2 l3) (ZeR ps n0 n1 l2 l3)=
 some (tr [5,1] [!A.lt n1 n0],
  AV.tup [AV.list (.ints .i64 l3),AV.list (.ints .i64 l2)],none):=by kernel_rfl
end Go.Proofs.Ytjhdnpmojhkbjaa
/- Contracts as a list. No condition. -/
namespace Go.Proofs.Ytjhdnpmojhkbjaa
theorem Zj2{f:FuncId}{args:List AV}{e sz:Nat}{r:Row}(h:ZaH Try.prog f args (.row 0 0) (some ⟨e,sz+1,r⟩))(hp:r.pure=true):ZaH Try.prog f args (.list r) none:=by
 intro w okA L vs hargs hok
 refine(h w okA L vs hargs hok).mono ?_
 rintro e' w' ⟨x,L',rfl,hb,hpo⟩
 obtain⟨H,hr⟩:HRel (Ctx.of Try.prog w okA []) (Zaj (some ⟨e,sz+1,r⟩)) L' w'∧ZaB (Ctx.of Try.prog w okA []) (Zaj (some ⟨e,sz+1,r⟩)) L' w' (.row 0 0) x:=hpo
 refine⟨x,L',rfl,hb,?_⟩
 show HRel _ (Zaj none) L' w'∧ZaB _ (Zaj none) L' w' (.list r) x
 refine⟨H.nil,?_⟩
 have hbk:blk (Zaj (some ⟨e,sz+1,r⟩)) 0 0=.row e (sz+1) r:=rfl
 obtain⟨ht,h0,h1,h2,h3,cur,h4,h5,h6,h7,h8⟩:=H.rowAt hbk
 have hl:=H.live 0 0 (by rw[ht];simp)
 cases hr with
 |row _ _ g o n c hn hlv=>
  obtain⟨rfl,rfl,rfl,rfl⟩:=hlv.2 _ ht
  have hpa:=ZaD hp
  exact .list r _ rfl ⟨L'.loc 0 0,0,none⟩ _ _ (sz+1) _ hl.2 (.inr ⟨hl.1,fun a i ht=>absurd rfl ht⟩) rfl hn h3 h6.1.symm h7 (fun j v hj=>h8 j v hj) hpa
   (fun j u v hu hv=>((h6.2 j u v hu hv).okmono (fun g _ ho=>Zcb ho)).pure (AV.pureL_mem hpa hu))
def Zn0:List AV→Int
 |[]=>0
 |p::ps=>if pkE (kI p) (kC p) (kD p)=0 then Zn0 ps else pkE (kI p) (kC p) (kD p)
theorem Zom:∀ {ps:List AV},ZCa ps=true→∀p∈ps,(kD p).length≤42
 |[],_,p,hp=>absurd hp List.not_mem_nil
 |q::ps,h,p,hp=>by
  rw[ZCa,Bool.and_eq_true,decide_eq_true_eq]at h
  rcases List.mem_cons.1 hp with rfl |hp
  ·exact h.1
  ·exact Zom h.2 p hp
theorem Zfp{ps:List AV}(h:ZbW ps=true):ps.length≤22∧∀p∈ps,(kD p).length≤42:=by
 rw[ZbW,Bool.and_eq_true,decide_eq_true_eq]at h
 exact⟨h.1,Zom h.2⟩
theorem ZOw{C:Ctx}(hC:C.P=Try.prog)(ps:List AV)(hlen:ps.length≤22)(hk:∀p∈ps,(kD p).length≤42):∀(d i:Nat),ps.length-i=d→i≤ps.length→
 Ev C (ZcQ ps ps.length i) (Zcp ps ps.length i) (ZdV 129 (.int .i64 (Zn0 (ps.drop i))) none):=by
 intro d
 induction d with
 |zero=>
  intro i hd hi
  exact fin hC Zbt (ZDc std ps ps.length i) (by simp;omega) (by rw[List.drop_of_length_le (by omega)];rfl) rfl
 |succ d ih=>
  intro i hd hi
  have hlt:i<ps.length:=by omega
  have e1:std.nthA ps (std.nat (i:Int))=ps[i]:=by simp[hlt]
  have g0:(ps[i].cellAt 0).toI=kI ps[i]:=rfl
  have g1:(ps[i].cellAt 1).toI=kC ps[i]:=rfl
  have g2:(ps[i].cellAt 2).toIs=kD ps[i]:=rfl
  have hb:=hk ps[i] (by simp)
  have hb':(kD ps[i]).length≤1000000:=by omega
  rw[List.drop_eq_getElem_cons hlt,Zn0]
  by_cases h:pkE (kI ps[i]) (kC ps[i]) (kD ps[i])=0
  ·rw[if_pos h]
   exact go hC Zbt (ZGk std ps ps.length i) (by simp only[e1,g0,g1,g2,h];simp[hlt,hb'];omega) (ih (i+1) (by omega) (by omega))
  ·rw[if_neg h]
   exact fin hC Zbt (ZHz std ps ps.length i) (by simp only[e1,g0,g1,g2];simp[hlt,hb',h]) (by simp only[e1,g0,g1,g2]) rfl
theorem ZpB(ps:List AV)(h:ZbW ps=true):ZaH Try.prog 129 [.list (.big (.agg [.int .i64, .int .i64, .ints .i64]) ps), .fn 30 []] (.int .i64 (Zn0 ps)) none:=
 start (Zuw ps) fun C hC=>go hC Zbt (ZIt std ps) (by simp) (ZOw hC ps (Zfp h).1 (Zfp h).2 ps.length 0 (by omega) (by omega))
theorem l36{C:Ctx}(hC:C.P=Try.prog)(ps:List AV)(hlen:ps.length≤22)(hk:∀p∈ps,(kD p).length≤42):∀(d i:Nat),ps.length-i=d→i≤ps.length→
 Ev C (ZeK ps i) (ZdQ ps i) (ZdV 36 (.int .i64 (Zn0 (ps.drop i))) none):=by
 intro d
 induction d with
 |zero=>
  intro i hd hi
  exact fin hC Zbt (ZMA std ps i) (by simp;omega) (by rw[List.drop_of_length_le (by omega)];rfl) rfl
 |succ d ih=>
  intro i hd hi
  have hlt:i<ps.length:=by omega
  have e1:std.nthA ps (std.nat (i:Int))=ps[i]:=by simp[hlt]
  have g0:(ps[i].cellAt 0).toI=kI ps[i]:=rfl
  have g1:(ps[i].cellAt 1).toI=kC ps[i]:=rfl
  have g2:(ps[i].cellAt 2).toIs=kD ps[i]:=rfl
  have hb:=hk ps[i] (by simp)
  have hb':(kD ps[i]).length≤1000000:=by omega
  rw[List.drop_eq_getElem_cons hlt,Zn0]
  by_cases h:pkE (kI ps[i]) (kC ps[i]) (kD ps[i])=0
  ·rw[if_pos h]
   exact go hC Zbt (ZNx std ps i) (by simp only[e1,g0,g1,g2,h];simp[hlt,hb'];omega) (ih (i+1) (by omega) (by omega))
  ·rw[if_neg h]
   exact fin hC Zbt (ZNh std ps i) (by simp only[e1,g0,g1,g2];simp[hlt,hb',h]) (by simp only[e1,g0,g1,g2]) rfl
def ZbV(ps:List AV):Int:=if 20<ps.length then 8 else Zn0 ps
theorem Zrz(ps:List AV)(h:ZbW ps=true):ZaH Try.prog 36 [.list (.big (.agg [.int .i64, .int .i64, .ints .i64]) ps)] (.int .i64 (ZbV ps)) none:=
 start (ZBR ps) fun C hC=>by
  unfold ZbV
  by_cases h2:20<ps.length
  ·rw[if_pos h2];exact fin hC Zbt (ZKK std ps) (by simp;omega) rfl rfl
  ·rw[if_neg h2];exact go hC Zbt (ZLg std ps) (by simp;omega) (l36 hC ps (Zfp h).1 (Zfp h).2 ps.length 0 (by omega) (by omega))
def pkV(p:AV):AV:=.agg (.gen [.int .i64 (kI p), .int .i64 (kC p), .list (.ints .i64 (kD p))])
theorem l34{C:Ctx}(hC:C.P=Try.prog)(ps:List AV)(hlen:ps.length≤22)(hk:∀p∈ps,(kD p).length≤42):∀(d i:Nat),ps.length-i=d→i≤ps.length→
 Ev C (ZfM ps i ((ps.take i).map pkV)) (Zff ps i ((ps.take i).map pkV)) (ZdV 34 (.row 0 0) (some ⟨57,3, .big (.agg [.int .i64, .int .i64, .ints .i64]) (ps.map pkV)⟩)):=by
 intro d
 induction d with
 |zero=>
  intro i hd hi
  have ht:ps.take i=ps:=List.take_of_length_le (by omega)
  rw[ht]
  exact fin hC Zbt (ZMT std ps i (ps.map pkV)) (by simp;omega) rfl rfl
 |succ d ih=>
  intro i hd hi
  have hlt:i<ps.length:=by omega
  have e1:std.nthA ps (std.nat (i:Int))=ps[i]:=by simp[hlt]
  have g0:(ps[i].cellAt 0).toI=kI ps[i]:=rfl
  have g1:(ps[i].cellAt 1).toI=kC ps[i]:=rfl
  have g2:(ps[i].cellAt 2).toIs=kD ps[i]:=rfl
  have hb:=hk ps[i] (by simp)
  have hb':(kD ps[i]).length≤4294967296:=by omega
  have ih':=ih (i+1) (by omega) (by omega)
  rw[List.take_succ_eq_append_getElem hlt,List.map_append,List.map_singleton]at ih'
  have hlen2:((ps.take i).map pkV).length=i:=by simp;omega
  have e5:std.add (i:Int) 1=((i+1:Nat):Int):=by simp
  generalize (ps.take i).map pkV=X at*
  refine go hC Zbt (ZMn std ps i X) ?_ ?_
  ·simp only[e1,g0,g1,g2];simp[hlt,hb',hlen2,AV.bx,Zac,Row.len];omega
  ·simp only[e1,g0,g1,g2,e5];exact ih'
theorem ZyV(xs:List AV):(Row.big (.agg [.int .i64, .int .i64, .ints .i64]) xs).pure=true:=rfl
theorem Zsu(ps:List AV)(h:ZbW ps=true):ZaH Try.prog 34 [.list (.big (.agg [.int .i64, .int .i64, .ints .i64]) ps)] (.list (.big (.agg [.int .i64, .int .i64, .ints .i64]) ps)) none:=by
 obtain⟨hl,hk⟩:=Zfp h
 cases ps with
 |nil=>exact wk2 (start (Zqp []) fun C hC=>go hC Zbt (ZFw std []) (by simp) (fin hC Zbt (ZJ6 std []) (by simp) rfl rfl)) (.one (.nil _ rfl))
 |cons p qs=>
  have key:=Zj2 (e:=57) (sz:=2) (f:=34) (args:=[.list (.big (.agg [.int .i64, .int .i64, .ints .i64]) (p::qs))]) (r:=.big (.agg [.int .i64, .int .i64, .ints .i64]) ((p::qs).map pkV))
   (start (Zqp (p::qs)) fun C hC=>by
     refine go hC Zbt (ZFw std (p::qs)) (by simp) ?_
     have hb:=hk p (by simp)
     have g0:(p.cellAt 0).toI=kI p:=rfl
     have g1:(p.cellAt 1).toI=kC p:=rfl
     have g2:(p.cellAt 2).toIs=kD p:=rfl
     have e1:std.nthA (p::qs) (std.nat 0)=p:=by simp
     refine go hC Zbt (ZL7 std (p::qs)) ?_ ?_
     ·simp only[e1,g0,g1,g2];simp[AV.bx,Zac,Row.len];omega
     ·have:=l34 hC (p::qs) hl hk qs.length 1 (by simp) (by simp)
      simp only[e1,g0,g1,g2]
      simpa[pkV]using this) (ZyV _)
  exact Zix key (by simp[Row.elems,pkV,kI,kC,kD,Sh.view,ZeI,Sh.view1,AV.cellAt,AV.toI,AV.toIs])
def pkB(p:AV):List Int:=kI p::kC p::((kD p).length:Int)::kD p
def Zag:List AV→List Int
 |[]=>[]
 |p::ps=>pkB p++Zag ps
def Zah:Nat→List AV→List Int
 |_,[]=>[]
 |n,p::ps=>(n:Int)::Zah (n+(pkB p).length) ps
def ZHV:List AV→Bool
 |[]=>true
 |p::ps=>decide ((kD p).length≤1000)&&ZHV ps
def ZBN(ps:List AV):Bool:=decide (ps.length≤1000)&&ZHV ps
theorem Zos:∀ {ps:List AV},ZHV ps=true→∀p∈ps,(kD p).length≤1000
 |[],_,p,hp=>absurd hp List.not_mem_nil
 |q::ps,h,p,hp=>by
  rw[ZHV,Bool.and_eq_true,decide_eq_true_eq]at h
  rcases List.mem_cons.1 hp with rfl |hp
  ·exact h.1
  ·exact Zos h.2 p hp
theorem l97{C:Ctx}(hC:C.P=Try.prog)(ps:List AV)(hlen:ps.length≤1000)(hk:∀p∈ps,(kD p).length≤1000)(B S:List Int):∀(d i:Nat) (b s:List Int),i+d=ps.length→b.length≤1003*i→s.length≤i→b++Zag (ps.drop i)=B→s++Zah b.length (ps.drop i)=S→
 Ev C (ZfX ps ps.length i s b) (ZeR ps ps.length i s b) (ZdV 97 (.tup [.list (.ints .i64 B), .list (.ints .i64 S)]) none):=by
 intro d
 induction d with
 |zero=>
  intro i b s hd hb hs hB hS
  rw[List.drop_of_length_le (by omega),Zag,List.append_nil]at hB
  rw[List.drop_of_length_le (by omega),Zah,List.append_nil]at hS
  exact fin hC Zbt (ZKV std ps ps.length i s b) (by simp;omega) (by rw[hB,hS]) rfl
 |succ d ih=>
  intro i b s hd hb hs hB hS
  have hlt:i<ps.length:=by omega
  have e1:std.nthA ps (std.nat (i:Int))=ps[i]:=by simp[hlt]
  have g0:(ps[i].cellAt 0).toI=kI ps[i]:=rfl
  have g1:(ps[i].cellAt 1).toI=kC ps[i]:=rfl
  have g2:(ps[i].cellAt 2).toIs=kD ps[i]:=rfl
  have hk':=hk ps[i] (by simp)
  have e5:std.add (i:Int) 1=((i+1:Nat):Int):=by simp
  rw[List.drop_eq_getElem_cons hlt]at hB hS
  rw[Zag,←List.append_assoc]at hB
  rw[Zah,List.append_cons]at hS
  have hpl:(pkB ps[i]).length=(kD ps[i]).length+3:=by simp[pkB]
  have ih':=ih (i+1) (b++pkB ps[i]) (s++[(b.length:Int)]) (by omega) (by rw[List.length_append,hpl];omega) (by simp;omega) hB (by rw[List.length_append];exact hS)
  refine go hC Zbt (ZK2 std ps ps.length i s b) ?_ ?_
  ·simp only[e1,g0,g1,g2];simp[hlt,AV.bx,Zac];omega
  ·simp only[e1,g0,g1,g2,e5]
   simpa[pkB]using ih'
theorem ZsZ(ps:List AV)(h:ZBN ps=true):ZaH Try.prog 97 [.list (.big (.agg [.int .i64, .int .i64, .ints .i64]) ps)] (.tup [.list (.ints .i64 (Zag ps)), .list (.ints .i64 (Zah 0 ps))]) none:=by
 rw[ZBN,Bool.and_eq_true,decide_eq_true_eq]at h
 obtain⟨hl,hk⟩:=h
 have hk:=Zos hk
 cases ps with
 |nil=>exact ZlH (xs:=[.nils, .nils]) (start (ZrQ []) fun C hC=>go hC Zbt (ZIa std []) (by simp) (fin hC Zbt (ZKM std [] _) (by simp) rfl rfl)) ⟨.nil _ rfl, .nil _ rfl,trivial⟩
 |cons p qs=>
  refine start (ZrQ (p::qs)) fun C hC=>?_
  refine go hC Zbt (ZIa std (p::qs)) (by simp) ?_
  have hb:=hk p (by simp)
  have g0:(p.cellAt 0).toI=kI p:=rfl
  have g1:(p.cellAt 1).toI=kC p:=rfl
  have g2:(p.cellAt 2).toIs=kD p:=rfl
  have e1:std.nthA (p::qs) (std.nat 0)=p:=by simp
  refine go hC Zbt (ZLi std (p::qs) _) ?_ ?_
  ·simp only[e1,g0,g1,g2];simp[AV.bx,Zac];omega
  ·have:=l97 hC (p::qs) hl hk (Zag (p::qs)) (Zah 0 (p::qs)) qs.length 1 (pkB p) [0] (by simp;omega) (by simp[pkB];omega) (by simp) rfl (by simp[Zah])
   simp only[e1,g0,g1,g2]
   simpa[pkB]using this
def k129:Ctr:=⟨129,0,fun _ a=>match a with |[.list (.big (.agg [.int .i64, .int .i64, .ints .i64]) ps), .fn 30 []]=>some (decide (ZbW ps=true), .int .i64 (Zn0 ps),none) |_=>none⟩
theorem Zyp:k129.OK Try.prog:=fun pa args r fr h=>by
 simp only[k129]at h
 split at h
 ·simp only[Option.some.injEq,Prod.mk.injEq,decide_eq_true_eq]at h
  obtain⟨h0,rfl,rfl⟩:=h
  exact ZpB _ h0
 ·cases h
def k36:Ctr:=⟨36,0,fun _ a=>match a with |[.list (.big (.agg [.int .i64, .int .i64, .ints .i64]) ps)]=>some (decide (ZbW ps=true), .int .i64 (ZbV ps),none) |_=>none⟩
theorem ZwZ:k36.OK Try.prog:=fun pa args r fr h=>by
 simp only[k36]at h
 split at h
 ·simp only[Option.some.injEq,Prod.mk.injEq,decide_eq_true_eq]at h
  obtain⟨h0,rfl,rfl⟩:=h
  exact Zrz _ h0
 ·cases h
def k34:Ctr:=⟨34,0,fun _ a=>match a with |[.list (.big (.agg [.int .i64, .int .i64, .ints .i64]) ps)]=>some (decide (ZbW ps=true), .list (.big (.agg [.int .i64, .int .i64, .ints .i64]) ps),none) |_=>none⟩
theorem Zvt:k34.OK Try.prog:=fun pa args r fr h=>by
 simp only[k34]at h
 split at h
 ·simp only[Option.some.injEq,Prod.mk.injEq,decide_eq_true_eq]at h
  obtain⟨h0,rfl,rfl⟩:=h
  exact Zsu _ h0
 ·cases h
def k97:Ctr:=⟨97,0,fun _ a=>match a with |[.list (.big (.agg [.int .i64, .int .i64, .ints .i64]) ps)]=>some (decide (ZBN ps=true), .tup [.list (.ints .i64 (Zag ps)), .list (.ints .i64 (Zah 0 ps))],none) |_=>none⟩
theorem ZCw:k97.OK Try.prog:=fun pa args r fr h=>by
 simp only[k97]at h
 split at h
 ·simp only[Option.some.injEq,Prod.mk.injEq,decide_eq_true_eq]at h
  obtain⟨h0,rfl,rfl⟩:=h
  exact ZsZ _ h0
 ·cases h
def BD2:List Ctr:=[k129,k36,k34,k97]++BD1
theorem ZfW:Zap Try.prog BD2:=⟨Zyp,⟨ZwZ,⟨Zvt,⟨ZCw,Zbt⟩⟩⟩⟩
end Go.Proofs.Ytjhdnpmojhkbjaa
/- Paths of functions, printed by the explorer (Gx). No condition. -/
namespace Go.Proofs.Ytjhdnpmojhkbjaa
set_option maxRecDepth 100000
set_option linter.unusedVariables false
def ZvJ(ps:List AV):AFrame:={ fn:=130,N:=8,env:=[(0,AV.list (Row.big (Sh.agg [Sh.int .i64,Sh.int .i64,Sh.ints .i64]) ps))],todo:=[.code a130.code],defs:=[],rnd:=none,ret:=false,res:=[ARes.tmp 2] }
def ZMq(ps:List AV):List AFrame:=[(ZvJ ps)]
theorem ZtV(ps:List AV):Zak tab 130 [AV.list (Row.big (Sh.agg [Sh.int .i64,Sh.int .i64,Sh.ints .i64]) ps)]=some (ZvJ ps):=rfl
theorem ZCQ(A:Ar)(ps:List AV):Zaz A tab BD2 20 [false] 130 (ZMq ps) []=
 some (tr [2,1,1,2] [Nat.ble (0+A.lenA ps) 4294967296,List.all [] fun x=>AV.bx x&&Nat.beq (Zac A x) 3,Nat.blt 0 (A.lenA ps)],
  AV.row 0 0,some { e:=57,sz:=3,r:=Row.big (.agg [.int .i64, .int .i64, .ints .i64]) ps }):=by kernel_rfl
def ZGU(ps:List AV):AFrame:={ fn:=96,N:=11,env:=[(0,AV.list (Row.big (Sh.agg [Sh.int .i64,Sh.int .i64,Sh.ints .i64]) ps))],todo:=[.code a96.code],defs:=[],rnd:=none,ret:=false,res:=[ARes.tmp 2] }
def ZO2(ps:List AV):List AFrame:=[(ZGU ps)]
theorem ZyX(ps:List AV):Zak tab 96 [AV.list (Row.big (Sh.agg [Sh.int .i64,Sh.int .i64,Sh.ints .i64]) ps)]=some (ZGU ps):=rfl
theorem ZKR(A:Ar)(ps:List AV):Zaz A tab BD2 18 [] 96 (ZO2 ps) []=
 some (tr [2,0,0,6] [decide (List.length [Zal (A.le (A.int (A.lenA ps)) 20) 8,Zn0 ps]≤1000000),List.all [AV.int .i64 (Zal (A.le (A.int (A.lenA ps)) 20) 8),AV.int .i64 (Zn0 ps)] fun x=>AV.bx x&&Nat.beq (Zac A x) 1,decide (ZbW ps=true)],
  AV.int .i64 (Zau [Zal (A.le (A.int (A.lenA ps)) 20) 8,Zn0 ps]),none):=by kernel_rfl
def ZuX(xs:List Int)(x:Int):AFrame:={ fn:=103,N:=54,env:=[(0,AV.list (.ints .i64 xs)),(1,AV.int .i64 x)],todo:=[.code a103.code],defs:=[],rnd:=none,ret:=false,res:=[ARes.tmp 4,ARes.tmp 5] }
def ZKb(xs:List Int)(x:Int):List AFrame:=[(ZuX xs x)]
theorem Zuq(xs:List Int)(x:Int):Zak tab 103 [AV.list (.ints .i64 xs),AV.int .i64 x]=some (ZuX xs x):=rfl
def ZbF(xs:List Int)(x n0 n1 n2:Int):List AFrame:=[{ fn:=103,N:=54,env:=[(0,AV.list (.ints .i64 xs)),(1,AV.int .i64 x),(6,AV.int .i64 n0),(7,AV.int .i64 n2),(8,AV.int .i64 n1)],todo:=.code (ACode.gh [] ZwJ)::ZCj,defs:=[],rnd:=none,ret:=false,res:=[ARes.tmp 4,ARes.tmp 5] }]
def Zbi(xs:List Int)(x:Int)(n0:Int)(n1:Int)(n2:Int):Zaa:=[]
abbrev Zeq(xs:List Int)(x:Int)(n0:Int)(n1:Int)(n2:Int):List AFrame×Zaa:=(ZbF xs x n0 n1 n2,Zbi xs x n0 n1 n2)
theorem ZFg(A:Ar)(xs:List Int)(x:Int):Zad A tab BD2 21 [] (ZKb xs x) []=
 some (tr [8] [],
  Zeq (xs) (x) (A.int (A.len xs)) (A.int (A.len xs)) (0)):=by kernel_rfl
theorem ZJt(A:Ar)(xs:List Int)(x n0 n1 n2:Int):Zad A tab BD2 76 [true,false,false,false,false,false,false,false,false,true] (ZbF xs x n0 n1 n2) (Zbi xs x n0 n1 n2)=
 some (tr [1,1,18,11,3,0,0,0,2,3] [A.inR .i64 (A.add (A.shr (A.add n2 n1) 1) 1),A.lt (A.nth xs (A.nat (A.shr (A.add n2 n1) 1))) x,!A.not (A.eq (A.nth xs (A.nat (A.shr (A.add n2 n1) 1))) (A.nth xs (A.nat (A.shr (A.add n2 n1) 1)))),Zab (Zab (A.le 0 (A.shr (A.add n2 n1) 1)) (Nat.blt (A.nat (A.shr (A.add n2 n1) 1)) (A.len xs))) true,A.inR .i64 (A.shr (A.add n2 n1) 1),Zab (A.le 0 1) (Nat.blt (A.nat 1) 64),A.inR .u64 (A.add n2 n1),A.inR .i64 (A.add n2 n1),A.lt n2 n1],
  Zeq (xs) (x) (n0) (n1) (A.add (A.shr (A.add n2 n1) 1) 1)):=by kernel_rfl
theorem ZFk(A:Ar)(xs:List Int)(x n0 n1 n2:Int):Zad A tab BD2 75 [true,false,false,false,false,false,false,false,false,false] (ZbF xs x n0 n1 n2) (Zbi xs x n0 n1 n2)=
 some (tr [2,18,11,3,0,0,0,2,3] [!A.lt (A.nth xs (A.nat (A.shr (A.add n2 n1) 1))) x,!A.not (A.eq (A.nth xs (A.nat (A.shr (A.add n2 n1) 1))) (A.nth xs (A.nat (A.shr (A.add n2 n1) 1)))),Zab (Zab (A.le 0 (A.shr (A.add n2 n1) 1)) (Nat.blt (A.nat (A.shr (A.add n2 n1) 1)) (A.len xs))) true,A.inR .i64 (A.shr (A.add n2 n1) 1),Zab (A.le 0 1) (Nat.blt (A.nat 1) 64),A.inR .u64 (A.add n2 n1),A.inR .i64 (A.add n2 n1),A.lt n2 n1],
  Zeq (xs) (x) (n0) (A.shr (A.add n2 n1) 1) (n2)):=by kernel_rfl
theorem ZHU(A:Ar)(xs:List Int)(x n0 n1 n2:Int):Zaz A tab BD2 40 [false,true,true,true,true,true,true,true,true,true,true,true,true,true,true,true,true,true] 103 (ZbF xs x n0 n1 n2) (Zbi xs x n0 n1 n2)=
 some (tr [23,8,4,5,3] [A.eq (A.nth xs (A.nat n2)) x,Zab (Zab (A.le 0 n2) (Nat.blt (A.nat n2) (A.len xs))) true,A.lt n2 n0,!A.lt n2 n1],
  AV.tup [AV.int .i64 n2,AV.bool true],none):=by kernel_rfl
theorem ZEx(A:Ar)(xs:List Int)(x n0 n1 n2:Int):Zaz A tab BD2 53 [false,true,true,true,true,true,true,true,false,false,false,false,false,false,false,false,false,false,true,false,true] 103 (ZbF xs x n0 n1 n2) (Zbi xs x n0 n1 n2)=
 some (tr [14,11,4,8,4,5,3] [!A.not (A.eq (A.nth xs (A.nat n2)) (A.nth xs (A.nat n2))),Zab (Zab (A.le 0 n2) (Nat.blt (A.nat n2) (A.len xs))) true,!A.eq (A.nth xs (A.nat n2)) x,Zab (Zab (A.le 0 n2) (Nat.blt (A.nat n2) (A.len xs))) true,A.lt n2 n0,!A.lt n2 n1],
  AV.tup [AV.int .i64 n2,AV.bool false],none):=by kernel_rfl
theorem ZDz(A:Ar)(xs:List Int)(x n0 n1 n2:Int):Zaz A tab BD2 40 [false,false,false,false,false,false,false,false,false,false] 103 (ZbF xs x n0 n1 n2) (Zbi xs x n0 n1 n2)=
 some (tr [29,5,3] [!A.lt n2 n0,!A.lt n2 n1],
  AV.tup [AV.int .i64 n2,AV.bool false],none):=by kernel_rfl
end Go.Proofs.Ytjhdnpmojhkbjaa
/- Contracts as a list. No condition. -/
namespace Go.Proofs.Ytjhdnpmojhkbjaa
theorem ZsG(ps:List AV)(h:ZbW ps=true):ZaH Try.prog 96 [.list (.big (.agg [.int .i64, .int .i64, .ints .i64]) ps)] (.int .i64 (ZbV ps)) none:=
 start (ZyX ps) fun C hC=>by
  refine fin hC ZfW (ZKR std ps) (by simp[h,AV.bx,Zac]) ?_ rfl
  unfold ZbV
  by_cases h2:20<ps.length
  ·have:std.le (std.int (std.lenA ps)) 20=false:=by simp;omega
   rw[this,if_pos h2];simp[Zau]
  ·have:std.le (std.int (std.lenA ps)) 20=true:=by simp;omega
   rw[this,if_neg h2];simp[Zau];exact fun h=>h.symm
theorem Znr(ps:List AV)(h:0<ps.length∧ps.length≤1000000):ZaH Try.prog 130 [.list (.big (.agg [.int .i64, .int .i64, .ints .i64]) ps)] (.row 0 0) (some ⟨57,3, .big (.agg [.int .i64, .int .i64, .ints .i64]) ps⟩):=
 start (ZtV ps) fun C hC=>fin hC ZfW (ZCQ std ps) (by simp;omega) rfl rfl
def Zmz(xs:List Int):Bool:=decide (xs.Pairwise (· < ·))&&decide (xs.length≤1000000)
def loS(xs:List Int)(x:Int):Nat:=(xs.takeWhile fun y=>decide (y<x)).length
theorem ZEQ{xs:List Int}{x:Int}{i:Nat}(hi:i≤xs.length)(h1:∀k (h:k<xs.length),k<i→xs[k]<x)(h2:∀k (h:k<xs.length),i≤k→x≤xs[k]):loS xs x=i:=by
 unfold loS
 induction xs generalizing i with
 |nil=>simp at hi;simp[hi]
 |cons y ys ih=>
  cases i with
  |zero=>
   have:=h2 0 (by simp) (by omega)
   rw[List.takeWhile_cons,if_neg (by simpa using this)];rfl
  |succ i=>
   have:=h1 0 (by simp) (by omega)
   rw[List.takeWhile_cons,if_pos (by simpa using this),List.length_cons,ih (i:=i) (by simpa using hi) (fun k h hk=>h1 (k+1) (by simpa using h) (by omega)) (fun k h hk=>h2 (k+1) (by simpa using h) (by omega))]
theorem ZOx{C:Ctx}(hC:C.P=Try.prog)(xs:List Int)(x:Int)(hlen:xs.length≤1000000)(hs:∀i j (hi:i<xs.length) (hj:j<xs.length),i<j→xs[i]<xs[j]):∀(d i j:Nat),j-i=d→i≤j→j≤xs.length→(∀k (h:k<xs.length),k<i→xs[k]<x)→(∀k (h:k<xs.length),j≤k→x≤xs[k])→
 Ev C (ZbF xs x xs.length j i) (Zbi xs x xs.length j i) (ZdV 103 (.tup [.int .i64 (loS xs x), .bool (decide (x∈xs))]) none):=by
 intro d
 induction d using Nat.strongRecOn with
 |_ d ih=>
  intro i j hd hij hj h1 h2
  by_cases hlt:i<j
  ·have hm:std.shr (std.add (i:Int) (j:Int)) 1=(((i+j)/2:Nat):Int):=by
    simp only[ZEu,ZbT]
    rw[Int.fdiv_eq_ediv_of_nonneg _ (by decide)]
    simp
   have hml:(i+j)/2<xs.length:=by omega
   have u:std.inR .u64 (std.add (i:Int) (j:Int))=true:=decide_eq_true ⟨show (0:Int)≤(i:Int)+j by omega,show(i:Int)+j≤18446744073709551615 by omega⟩
   obtain⟨m,hme⟩:∃m,(i+j)/2=m:=⟨_,rfl⟩
   rw[hme]at hm hml
   have e1:std.nth xs (std.nat (m:Int))=xs[m]:=by simp[hml]
   have e5:std.add (m:Int) 1=((m+1:Nat):Int):=by simp
   by_cases hc:xs[m]<x
   ·refine go hC ZfW (ZJt std xs x xs.length j i) ?_ ?_
    ·simp only[hm,e1,u];simp[hml,hc];omega
    ·rw[hm,e5]
     refine ih (j-(m+1)) (by omega) (m+1) j rfl (by omega) hj (fun k h hk=>?_) h2
     by_cases hkm:k=m
     ·subst hkm;exact hc
     ·have:=hs k m h hml (by omega);omega
   ·refine go hC ZfW (ZFk std xs x xs.length j i) ?_ ?_
    ·simp only[hm,e1,u];simp[hml];omega
    ·rw[hm]
     refine ih (m-i) (by omega) i m rfl (by omega) (by omega) h1 (fun k h hk=>?_)
     by_cases hkm:k=m
     ·subst hkm;omega
     ·have:=hs m k hml h (by omega);omega
  ·have hij2:i=j:=by omega
   subst hij2
   have hlo:=ZEQ hj h1 h2
   by_cases hn:i<xs.length
   ·have e1:std.nth xs (std.nat (i:Int))=xs[i]:=by simp[hn]
    by_cases he:xs[i]=x
    ·refine fin hC ZfW (ZHU std xs x xs.length i i) ?_ ?_ rfl
     ·simp only[e1,he];simp[hn]
     ·rw[hlo,decide_eq_true (he▸List.getElem_mem hn)]
    ·refine fin hC ZfW (ZEx std xs x xs.length i i) ?_ ?_ rfl
     ·simp only[e1];simp[hn,he]
     ·have:¬x∈xs:=fun hx=>by
       obtain⟨k,hk,hke⟩:=List.getElem_of_mem hx
       by_cases hki:k<i
       ·have:=h1 k hk hki;omega
       ·by_cases hk2:k=i
        ·subst hk2;exact he hke
        ·have a:=hs i k hn hk (by omega)
         have b:=h2 i hn (by omega)
         omega
      rw[hlo,decide_eq_false this]
   ·refine fin hC ZfW (ZDz std xs x xs.length i i) (by simp;omega) ?_ rfl
    have:¬x∈xs:=fun hx=>by
     obtain⟨k,hk,hke⟩:=List.getElem_of_mem hx
     have:=h1 k hk (by omega)
     omega
    rw[hlo,decide_eq_false this]
theorem Zrr(xs:List Int)(x:Int)(h:Zmz xs=true):ZaH Try.prog 103 [.list (.ints .i64 xs), .int .i64 x] (.tup [.int .i64 (loS xs x), .bool (decide (x∈xs))]) none:=
 start (Zuq xs x) fun C hC=>by
  rw[Zmz,Bool.and_eq_true,decide_eq_true_eq,decide_eq_true_eq]at h
  have hs:=List.pairwise_iff_getElem.1 h.1
  exact go hC ZfW (ZFg std xs x) (by simp) (ZOx hC xs x h.2 hs xs.length 0 xs.length (by omega) (by omega) (by omega) (fun k h hk=>by omega) (fun k h hk=>by omega))
def k96:Ctr:=⟨96,0,fun _ a=>match a with |[.list (.big (.agg [.int .i64, .int .i64, .ints .i64]) ps)]=>some (decide (ZbW ps=true), .int .i64 (ZbV ps),none) |_=>none⟩
theorem ZHf:k96.OK Try.prog:=fun pa args r fr h=>by
 simp only[k96]at h
 split at h
 ·simp only[Option.some.injEq,Prod.mk.injEq,decide_eq_true_eq]at h
  obtain⟨h0,rfl,rfl⟩:=h
  exact ZsG _ h0
 ·cases h
def k130:Ctr:=⟨130,0,fun _ a=>match a with |[.list (.big (.agg [.int .i64, .int .i64, .ints .i64]) ps)]=>some (decide (0<ps.length∧ps.length≤1000000), .row 0 0,some ⟨57,3, .big (.agg [.int .i64, .int .i64, .ints .i64]) ps⟩) |_=>none⟩
theorem ZBT:k130.OK Try.prog:=fun pa args r fr h=>by
 simp only[k130]at h
 split at h
 ·simp only[Option.some.injEq,Prod.mk.injEq,decide_eq_true_eq]at h
  obtain⟨h0,rfl,rfl⟩:=h
  exact Znr _ h0
 ·cases h
def k103:Ctr:=⟨103,0,fun _ a=>match a with |[.list (.ints .i64 xs), .int .i64 x]=>some (decide (Zmz xs=true), .tup [.int .i64 (loS xs x), .bool (decide (x∈xs))],none) |_=>none⟩
theorem Zz7:k103.OK Try.prog:=fun pa args r fr h=>by
 simp only[k103]at h
 split at h
 ·simp only[Option.some.injEq,Prod.mk.injEq,decide_eq_true_eq]at h
  obtain⟨h0,rfl,rfl⟩:=h
  exact Zrr _ _ h0
 ·cases h
def BD3:List Ctr:=[k96,k130,k103]++BD2
theorem Zjn:Zap Try.prog BD3:=⟨ZHf,⟨ZBT,⟨Zz7,ZfW⟩⟩⟩
end Go.Proofs.Ytjhdnpmojhkbjaa
