/- Contracts as a list. No condition. -/
import Derived.Test.YtjhdnpmojhkbjaaPp
import Derived.KernelRfl
namespace Go.Proofs.Ytjhdnpmojhkbjaa
def frE(a b:Int)(x:AV):Int:=Zdg a b (AV.toI (AV.cellAt x 0)) (AV.toI (AV.cellAt x 1)) (AV.toI (AV.cellAt x 2)) (AV.toIs (AV.cellAt x 3))
def Zjv(a b:Int):List AV→Int
 |[]=>0
 |f::fs=>if frE a b f=0 then Zjv a b fs else frE a b f
def ZKK(a b:Int):Bool:=decide ((-1000000≤a∧a≤1000000)∧ -1000000≤b∧b≤1000000)
theorem Zsy{C:Ctx}(hC:C.P=Try.prog)(a b:Int)(fs:List AV)(hl:fs.length≤1000000)(hr:(-1000000≤a∧a≤1000000)∧ -1000000≤b∧b≤1000000):∀(d i:Nat),fs.length-i=d→i≤fs.length→
 Ev C (Zeb a b fs i) (Zdc a b fs i) (ZeX 20 (.int .i64 (Zjv a b (fs.drop i))) none):=by
 intro d
 induction d with
 |zero=>
  intro i hd' hi
  exact fin hC ZiH (ZH3 std a b fs i) (by simp;omega) (by rw[List.drop_of_length_le (by omega)];rfl) rfl
 |succ d ih=>
  intro i hd' hi
  have hlt:i<fs.length:=by omega
  have hg:fs.getD i .top=fs[i]:=by simp[hlt]
  rw[List.drop_eq_getElem_cons hlt,Zjv]
  by_cases h:frE a b fs[i]=0
  ·rw[if_pos h]
   have h':=h
   unfold frE at h'
   have hw:=ZJk std a b fs i
   simp only[ZaB,Zau,Int.toNat_natCast,hg,h']at hw
   exact go hC ZiH hw (by simp[hlt,hr];omega) (ih (i+1) (by omega) (by omega))
  ·rw[if_neg h]
   have h':=h
   unfold frE at h'
   have hw:=ZKq std a b fs i
   simp only[ZaB,Zau,Int.toNat_natCast,hg]at hw
   exact fin hC ZiH hw (by simp[hlt,hr,h']) rfl rfl
def Zsc(a b:Int)(fs:List AV):Int:=if 40<fs.length then 8 else Zjv a b fs
theorem ZsO(a b:Int)(fs:List AV)(hl:fs.length≤1000000)(hr:ZKK a b=true):ZaK Try.prog 20 [.agg (.gen [.int .i64 a, .int .i64 b]), .list (.big ZAC fs)] (.int .i64 (Zsc a b fs)) none:=
 start (Zwp a b fs) fun C hC=>by
  have hr:=of_decide_eq_true hr
  unfold Zsc
  by_cases h:40<fs.length
  ·rw[if_pos h]
   exact fin hC ZiH (ZIe std a b fs) (by simp;omega) rfl rfl
  ·rw[if_neg h]
   exact go hC ZiH (ZJM std a b fs) (by simp;omega) (Zsy hC a b fs hl hr fs.length 0 (by omega) (by omega))
def ZDS(a b:Int)(fs:List AV):Bool:=decide (fs.length≤1000000)&&ZKK a b
theorem Zqf(a b:Int)(fs:List AV)(h:ZDS a b fs=true):ZaK Try.prog 20 [.agg (.gen [.int .i64 a, .int .i64 b]), .list (.big ZAC fs)] (.int .i64 (Zsc a b fs)) none:=by
 unfold ZDS at h
 simp only[Bool.and_eq_true,decide_eq_true_eq]at h
 exact ZsO a b fs h.1 h.2
def k20:Ctr:=⟨20,0,fun _ a=>match a with |[.agg (.gen [.int .i64 a, .int .i64 b]), .list (.big (.agg [.int .i64, .int .i64, .int .i64, .ints .i64]) fs)]=>some (decide (ZDS a b fs=true), .int .i64 (Zsc a b fs),none) |_=>none⟩
theorem ZF4:k20.OK Try.prog:=fun pa args r fr h=>by
 simp only[k20]at h
 split at h
 ·simp only[Option.some.injEq,Prod.mk.injEq,decide_eq_true_eq]at h
  obtain⟨h0,rfl,rfl⟩:=h
  exact Zqf _ _ _ h0
 ·cases h
def BOg:List Ctr:=[k20]++BOf
theorem ZAV:Zap Try.prog BOg:=⟨ZF4,ZiH⟩
end Go.Proofs.Ytjhdnpmojhkbjaa
/- Contracts as a list. No condition. -/
namespace Go.Proofs.Ytjhdnpmojhkbjaa
def BOh:List Ctr:=BOg
theorem ZCL:Zap Try.prog BOh:=ZAV
end Go.Proofs.Ytjhdnpmojhkbjaa
/- The contracts of both lines together. No condition. -/
namespace Go.Proofs.Ytjhdnpmojhkbjaa
def BOi:List Ctr:=BOh
theorem ZGx:Zap Try.prog BOi:=ZCL
end Go.Proofs.Ytjhdnpmojhkbjaa
/- Contracts as a list. No condition. -/
namespace Go.Proofs.Ytjhdnpmojhkbjaa
def BOj:List Ctr:=BOi
theorem ZdP:Zap Try.prog BOj:=ZGx
end Go.Proofs.Ytjhdnpmojhkbjaa
/- Paths of functions, printed by the explorer (Gx). No condition. -/
namespace Go.Proofs.Ytjhdnpmojhkbjaa
set_option maxRecDepth 100000
set_option linter.unusedVariables false
def Zvf(xs:List AV):AFrame:={ fn:=121,N:=66,env:=[(0,AV.row 0 0),(1,AV.fn 122 [])],todo:=[.code a121.code],defs:=[],rnd:=none,ret:=false,res:=[ARes.tmp 4] }
def Ztk(xs:List AV):List AFrame:=[(Zvf xs)]
theorem ZmS(xs:List AV):Zam tab 121 [AV.row 0 0,AV.fn 122 []]=some (Zvf xs):=rfl
def ZmW(xs:List AV):Zaa:=[(0,{ base:=0,blks:=[Blk.row 140 5 (Row.big (Sh.agg [Sh.int .i64,Sh.int .i64,Sh.int .i64,Sh.ints .i64,Sh.int .i64]) xs)] })]
def ZbS(xs:List AV)(n0:Int):List AFrame:=[{ fn:=121,N:=66,env:=[(0,AV.row 0 0),(1,AV.fn 122 []),(5,AV.int .i64 n0)],todo:=.code (ACode.gh [] ZvJ)::ZG9,defs:=[],rnd:=none,ret:=false,res:=[ARes.tmp 4] }]
def ZbA(xs:List AV)(n0:Int):Zaa:=[(0,{ base:=0,blks:=[Blk.row 140 5 (Row.big (Sh.agg [Sh.int .i64,Sh.int .i64,Sh.int .i64,Sh.ints .i64,Sh.int .i64]) xs)] })]
abbrev ZgK(xs:List AV)(n0:Int):List AFrame×Zaa:=(ZbS xs n0,ZbA xs n0)
def ZcV(j1 j2:Nat)(n3 n4:Int)(x5:List AV):List AFrame:=[{ fn:=121,N:=66,env:=[(0,AV.row 0 0),(1,AV.fn 122 []),(5,AV.int .i64 n3),(6,AV.slc 0 0 j1 j2 none),(7,AV.int .i64 n4)],todo:=.code (ACode.gh [] Zvp)::ZGa,defs:=[],rnd:=none,ret:=false,res:=[ARes.tmp 4] }]
def Zb3(j1:Nat)(j2:Nat)(n3:Int)(n4:Int)(x5:List AV):Zaa:=[(0,{ base:=0,blks:=[Blk.row 140 5 (Row.big (Sh.agg [Sh.int .i64,Sh.int .i64,Sh.int .i64,Sh.ints .i64,Sh.int .i64]) x5)] })]
abbrev Zd3(j1:Nat)(j2:Nat)(n3:Int)(n4:Int)(x5:List AV):List AFrame×Zaa:=(ZcV j1 j2 n3 n4 x5,Zb3 j1 j2 n3 n4 x5)
theorem Zvr(A:Ar)(xs:List AV):ZaX A tab BOj 18 [true] 121 (Ztk xs) (ZmW xs)=
 some (tr [3,4] [A.lt (A.int (A.lenA xs)) 2],
  AV.row 0 0,140,5,Row.big (.agg [.int .i64, .int .i64, .int .i64, .ints .i64, .int .i64]) xs):=by kernel_rfl
theorem ZtZ(A:Ar)(xs:List AV):Zad A tab BOj 21 [false] (Ztk xs) (ZmW xs)=
 some (tr [1,4] [!A.lt (A.int (A.lenA xs)) 2],
  ZgK (xs) (1)):=by kernel_rfl
theorem ZFO(A:Ar)(xs:List AV)(n0:Int):Zad A tab BOj 32 [true,true] (ZbS xs n0) (ZbA xs n0)=
 some (tr [2,2,1,0,0,2,0,3,4] [Zab (Zab (A.le 0 n0) true) (Zab (Zab (Nat.ble (A.nat n0) (A.lenA xs)) (Nat.ble (A.lenA xs) (A.lenA xs))) true),Zf8 ((A.nthA xs (A.nat n0)).cellAt 4).toI ((A.nthA xs (A.nat (A.sub n0 1))).cellAt 4).toI,Zab (Nat.blt (A.nat (A.sub n0 1)) (A.lenA xs)) true,Zab (A.le 0 (A.sub n0 1)) (Nat.blt (A.nat (A.sub n0 1)) (A.lenA xs)),A.inR .i64 (A.sub n0 1),Zab (Nat.blt (A.nat n0) (A.lenA xs)) true,Zab (A.le 0 n0) (Nat.blt (A.nat n0) (A.lenA xs)),A.lt n0 (A.int (A.lenA xs))],
  Zd3 (A.nat n0) (A.lenA xs-A.nat n0) (n0) (1) (xs)):=by kernel_rfl
theorem Zvv(A:Ar)(xs:List AV)(n0:Int):Zad A tab BOj 26 [true,false] (ZbS xs n0) (ZbA xs n0)=
 some (tr [1,1,1,0,0,2,0,3,4] [A.inR .i64 (A.add n0 1),!Zf8 ((A.nthA xs (A.nat n0)).cellAt 4).toI ((A.nthA xs (A.nat (A.sub n0 1))).cellAt 4).toI,Zab (Nat.blt (A.nat (A.sub n0 1)) (A.lenA xs)) true,Zab (A.le 0 (A.sub n0 1)) (Nat.blt (A.nat (A.sub n0 1)) (A.lenA xs)),A.inR .i64 (A.sub n0 1),Zab (Nat.blt (A.nat n0) (A.lenA xs)) true,Zab (A.le 0 n0) (Nat.blt (A.nat n0) (A.lenA xs)),A.lt n0 (A.int (A.lenA xs))],
  ZgK (xs) (A.add n0 1)):=by kernel_rfl
theorem ZEL(A:Ar)(xs:List AV)(n0:Int):ZaX A tab BOj 17 [false] 121 (ZbS xs n0) (ZbA xs n0)=
 some (tr [3,4] [!A.lt n0 (A.int (A.lenA xs))],
  AV.row 0 0,140,5,Row.big (.agg [.int .i64, .int .i64, .int .i64, .ints .i64, .int .i64]) xs):=by kernel_rfl
theorem ZDo(A:Ar)(j1 j2:Nat)(n3 n4:Int)(x5:List AV):Zad A tab BOj 42 [true,true] (ZcV j1 j2 n3 n4 x5) (Zb3 j1 j2 n3 n4 x5)=
 some (tr [1,2,1,0,0,0,4,2,0,0,2,0,3,1,2] [A.inR .i64 (A.add n4 1),A.inR .i64 (A.add n3 1),Zab (Nat.blt (A.nat n3) (A.lenA x5)) true,Zab (A.le 0 n3) (Nat.blt (A.nat n3) (A.lenA x5)),Zab (Nat.blt (j1+A.nat n4) (A.lenA x5)) true,Zab (A.le 0 n4) (Nat.blt (A.nat n4) j2),A.not (Zf8 ((A.nthA x5 (j1+A.nat n4)).cellAt 4).toI ((A.nthA x5 (j1+A.nat (A.sub n4 1))).cellAt 4).toI),Zab (Nat.blt (j1+A.nat (A.sub n4 1)) (A.lenA x5)) true,Zab (A.le 0 (A.sub n4 1)) (Nat.blt (A.nat (A.sub n4 1)) j2),A.inR .i64 (A.sub n4 1),Zab (Nat.blt (j1+A.nat n4) (A.lenA x5)) true,Zab (A.le 0 n4) (Nat.blt (A.nat n4) j2),A.lt n4 (A.int (A.lenA (A.subA x5 j1 j2))),Nat.ble (j1+j2) (A.lenA x5)],
  Zd3 (j1) (j2) (A.add n3 1) (A.add n4 1) (A.setA x5 (A.nat n3) (AV.agg (Row.gen [.int .i64 ((A.nthA x5 (j1+A.nat n4)).cellAt 0).toI, .int .i64 ((A.nthA x5 (j1+A.nat n4)).cellAt 1).toI, .int .i64 ((A.nthA x5 (j1+A.nat n4)).cellAt 2).toI, .list (.ints .i64 ((A.nthA x5 (j1+A.nat n4)).cellAt 3).toIs), .int .i64 ((A.nthA x5 (j1+A.nat n4)).cellAt 4).toI])))):=by kernel_rfl
theorem ZG2(A:Ar)(j1 j2:Nat)(n3 n4:Int)(x5:List AV):Zad A tab BOj 26 [true,false] (ZcV j1 j2 n3 n4 x5) (Zb3 j1 j2 n3 n4 x5)=
 some (tr [1,1,2,0,0,2,0,3,1,2] [A.inR .i64 (A.add n4 1),!A.not (Zf8 ((A.nthA x5 (j1+A.nat n4)).cellAt 4).toI ((A.nthA x5 (j1+A.nat (A.sub n4 1))).cellAt 4).toI),Zab (Nat.blt (j1+A.nat (A.sub n4 1)) (A.lenA x5)) true,Zab (A.le 0 (A.sub n4 1)) (Nat.blt (A.nat (A.sub n4 1)) j2),A.inR .i64 (A.sub n4 1),Zab (Nat.blt (j1+A.nat n4) (A.lenA x5)) true,Zab (A.le 0 n4) (Nat.blt (A.nat n4) j2),A.lt n4 (A.int (A.lenA (A.subA x5 j1 j2))),Nat.ble (j1+j2) (A.lenA x5)],
  Zd3 (j1) (j2) (n3) (A.add n4 1) (x5)):=by kernel_rfl
theorem ZGn(A:Ar)(j1 j2:Nat)(n3 n4:Int)(x5:List AV):ZaX A tab BOj 26 [false] 121 (ZcV j1 j2 n3 n4 x5) (Zb3 j1 j2 n3 n4 x5)=
 some (tr [2,2,0,2,1,2] [Zab (A.le 0 n3) (Zab (Zab (Nat.ble 0 (A.nat n3)) (Nat.ble (A.nat n3) (A.lenA (A.appA (A.appA (A.subA x5 0 (A.nat n3)) (A.repA (A.lenA x5-A.nat n3) (AV.agg (Row.gen [.int .i64 0, .int .i64 0, .int .i64 0, .list (.ints .i64 []), .int .i64 0])))) (A.subA x5 (A.nat n3+A.lenA (A.repA (A.lenA x5-A.nat n3) (AV.agg (Row.gen [.int .i64 0, .int .i64 0, .int .i64 0, .list (.ints .i64 []), .int .i64 0])))) (A.lenA x5)))))) true),Nat.ble (A.nat n3+(A.lenA x5-A.nat n3)) (A.lenA x5),Zab (Zab (A.le 0 n3) true) (Zab (Zab (Nat.ble (A.nat n3) (A.lenA x5)) (Nat.ble (A.lenA x5) (A.lenA x5))) true),!A.lt n4 (A.int (A.lenA (A.subA x5 j1 j2))),Nat.ble (j1+j2) (A.lenA x5)],
  AV.slc 0 0 0 (A.nat n3-0) none,140,5,Row.big (.agg [.int .i64, .int .i64, .int .i64, .ints .i64, .int .i64]) (A.appA (A.appA (A.subA x5 0 (A.nat n3)) (A.repA (A.lenA x5-A.nat n3) (AV.agg (Row.gen [.int .i64 0, .int .i64 0, .int .i64 0, .list (.ints .i64 []), .int .i64 0])))) (A.subA x5 (A.nat n3+A.lenA (A.repA (A.lenA x5-A.nat n3) (AV.agg (Row.gen [.int .i64 0, .int .i64 0, .int .i64 0, .list (.ints .i64 []), .int .i64 0])))) (A.lenA x5)))):=by kernel_rfl
end Go.Proofs.Ytjhdnpmojhkbjaa
/- Contracts as a list. No condition. -/
namespace Go.Proofs.Ytjhdnpmojhkbjaa
theorem Zr2{P:Program}{f:FuncId}{e:TypeId}{sz n:Nat}{x y:Row}{args:List AV}(h:ZlH P f e sz x y args (.row 0 0))(hn:n=y.elems.length):ZlH P f e sz x y args (.slc 0 0 0 n none):=by
 subst hn
 intro w okA L vs hok H hr
 refine(h w okA L vs hok H hr).mono ?_
 rintro e' w' ⟨v,L',rfl,hF,H2,rr⟩
 refine⟨v,L',rfl,hF,H2,?_⟩
 cases rr with
 |row _ _ g o n c hn hl=>
  have ht:(blk (Zaj (some ⟨e,sz,y⟩)) 0 0).tag=some (sz,y.elems.length):=rfl
  obtain⟨rfl,rfl,rfl,rfl⟩:=hl.2 _ ht
  exact .slc 0 0 0 _ none _ _ _ hn ⟨hl.1,fun s hs=>.inr ⟨rfl,by simp,by simp,by simp⟩⟩
def zN:AV:=AV.agg (Row.gen [AV.int .i64 0,AV.int .i64 0,AV.int .i64 0,AV.list (.ints .i64 []),AV.int .i64 0])
def cpZ(xs:List AV):List AV:=cpN xs++List.replicate (xs.length-(cpN xs).length) zN
theorem Zml:∀(l:List AV) (p:AV),(cpA p l).length≤l.length
 |[],_=>Nat.le_refl _
 |y::l,p=>by
  unfold cpA
  have:=Zml l y
  split<;>simp<;>omega
theorem Zro(l:List AV):(cpN l).length≤l.length:=by
 cases l with
 |nil=>exact Nat.le_refl _
 |cons x l=>simp only[cpN,List.length_cons];have:=Zml l x;omega
theorem ZFq(n:Nat)(v:AV):std.repA n v=List.replicate n v:=rfl
theorem ZCo(X:List AV)(k:Nat):sub3 X 0 k++List.replicate (X.length-k) zN++sub3 X (k+(List.replicate (X.length-k) zN).length) X.length=X.take k++List.replicate (X.length-k) zN:=by
 have h1:sub3 X 0 k=X.take k:=by simp[sub3]
 have h2:sub3 X (k+(List.replicate (X.length-k) zN).length) X.length=[]:=by
  unfold sub3
  rw[List.length_replicate,List.drop_of_length_le (by omega),List.take_nil]
 rw[h1,h2,List.append_nil]
section
variable {C:Ctx}(hC:C.P=Try.prog)(xs:List AV)(hL:xs.length<1000000)(hn:ZaH xs=true)
include hC hL hn
theorem ZKi(j1:Nat):∀(d m k:Nat) (X:List AV),xs.length-(j1+m)=d→1≤m→j1+m≤xs.length→j1≤k→k+1≤j1+m→X.length=xs.length→(∀t,j1+m≤t+1→X.getD t .top=xs.getD t .top)→
 X.take k++cpA (xs.getD (j1+m-1) .top) (xs.drop (j1+m))=cpN xs→
 Ev C (ZcV j1 (xs.length-j1) k m X) (Zb3 j1 (xs.length-j1) k m X) (Zho 121 140 5 (.big shN (cpZ xs)) (.slc 0 0 0 (cpN xs).length none)):=by
 intro d
 induction d with
 |zero=>
  intro m k X hd hm hjm hk hkm hX hg hinv
  have hjl:j1+m=xs.length:=by omega
  rw[List.drop_of_length_le (by omega),cpA,List.append_nil]at hinv
  have hkl:(cpN xs).length=k:=by rw[←hinv,List.length_take];omega
  have hw:=ZGn std j1 (xs.length-j1) k m X
  simp only[ZaB,Znk,ZFq,ZiC,Zq4,Zuh,Int.toNat_natCast]at hw
  rw[show (AV.agg (Row.gen [AV.int .i64 0,AV.int .i64 0,AV.int .i64 0,AV.list (.ints .i64 []),AV.int .i64 0]))=zN from rfl,show std.subA=sub3 from rfl,ZCo X k]at hw
  refine ZdB hC ZdP hw ?_ (by rw[hkl];rfl) rfl rfl (by rw[hinv,←hkl,hX];rfl)
  simp[hX,sub3]
  omega
 |succ d ih=>
  intro m k X hd hm hjm hk hkm hX hg hinv
  have hlt:j1+m<xs.length:=by omega
  have g1:X.getD (j1+m) .top=xs.getD (j1+m) .top:=hg _ (by omega)
  have g2:X.getD (j1+(m-1)) .top=xs.getD (j1+m-1) .top:=by
   rw[show j1+(m-1)=j1+m-1 by omega];exact hg _ (by omega)
  have g3:xs.getD (j1+m) .top=xs[j1+m]:=by simp[hlt]
  have e1:(std.sub (m:Int) 1).toNat=m-1:=by simp
  have e2:std.add (m:Int) 1=((m+1:Nat):Int):=by simp
  have e3:std.add (k:Int) 1=((k+1:Nat):Int):=by simp
  have hv:=Zdw hn hlt
  rw[List.drop_eq_getElem_cons hlt,cpA]at hinv
  rw[←g3]at hinv
  have hidx:j1+(m+1)-1=j1+m:=by omega
  by_cases hs:Zaw (xs.getD (j1+m) .top)=Zaw (xs.getD (j1+m-1) .top)
  ·rw[if_pos hs]at hinv
   have hw:=ZG2 std j1 (xs.length-j1) k m X
   simp only[ZaB,Zau,Zq4,Int.toNat_natCast,e1,e2]at hw
   simp only[g1,g2]at hw
   have hsm:Zf8 (Zaw (xs.getD (j1+m) .top)) (Zaw (xs.getD (j1+m-1) .top))=true:=decide_eq_true hs
   have hsm':Zf8 (AV.toI (AV.cellAt (xs.getD (j1+m) .top) 4)) (AV.toI (AV.cellAt (xs.getD (j1+m-1) .top) 4))=true:=hsm
   rw[hsm']at hw
   refine go hC ZdP hw ?_ (ih (m+1) k X (by omega) (by omega) (by omega) hk (by omega) hX (fun t ht=>hg t (by omega)) ?_)
   ·simp[hX];omega
   ·rw[hidx];exact hinv
  ·rw[if_neg hs]at hinv
   have hw:=ZDo std j1 (xs.length-j1) k m X
   simp only[ZaB,Zau,Zk3,Zq4,Int.toNat_natCast,e1,e2,e3]at hw
   simp only[g1,g2]at hw
   have hsm:Zf8 (Zaw (xs.getD (j1+m) .top)) (Zaw (xs.getD (j1+m-1) .top))=false:=decide_eq_false hs
   have hsm':Zf8 (AV.toI (AV.cellAt (xs.getD (j1+m) .top) 4)) (AV.toI (AV.cellAt (xs.getD (j1+m-1) .top) 4))=false:=hsm
   rw[hsm']at hw
   rw[show (AV.agg (Row.gen [AV.int .i64 (AV.toI (AV.cellAt (xs.getD (j1+m) .top) 0)),AV.int .i64 (AV.toI (AV.cellAt (xs.getD (j1+m) .top) 1)),AV.int .i64 (AV.toI (AV.cellAt (xs.getD (j1+m) .top) 2)),AV.list (.ints .i64 (AV.toIs (AV.cellAt (xs.getD (j1+m) .top) 3))),AV.int .i64 (AV.toI (AV.cellAt (xs.getD (j1+m) .top) 4))]))=xs.getD (j1+m) .top from hv]at hw
   refine go hC ZdP hw ?_ (ih (m+1) (k+1) _ (by omega) (by omega) (by omega) (by omega) (by omega) (by rw[List.length_set];exact hX) (fun t ht=>?_) ?_)
   ·simp[hX];omega
   ·rw[List.getD_eq_getElem?_getD,List.getElem?_set_ne (by omega),←List.getD_eq_getElem?_getD]
    exact hg t (by omega)
   ·rw[hidx,←hinv,List.take_set,List.take_succ_eq_append_getElem (by omega:k<X.length)]
    rw[List.set_append_right _ _ (by rw[List.length_take];omega),List.length_take,Nat.min_eq_left (by omega),Nat.sub_self]
    simp[Nat.add_assoc]
theorem ZAy(hp:cpN xs≠xs):∀(d i:Nat),xs.length-i=d→1≤i→i≤xs.length→xs.take i++cpA (xs.getD (i-1) .top) (xs.drop i)=cpN xs→
 Ev C (ZbS xs i) (ZbA xs i) (Zho 121 140 5 (.big shN (cpZ xs)) (.slc 0 0 0 (cpN xs).length none)):=by
 intro d
 induction d with
 |zero=>
  intro i hd h1 hi hinv
  rw[List.drop_of_length_le (by omega),cpA,List.append_nil,List.take_of_length_le (by omega)]at hinv
  exact absurd hinv.symm hp
 |succ d ih=>
  intro i hd h1 hi hinv
  have hlt:i<xs.length:=by omega
  have g3:xs.getD i .top=xs[i]:=by simp[hlt]
  have e1:(std.sub (i:Int) 1).toNat=i-1:=by simp
  have e2:std.add (i:Int) 1=((i+1:Nat):Int):=by simp
  rw[List.drop_eq_getElem_cons hlt,cpA,←g3]at hinv
  by_cases hs:Zaw (xs.getD i .top)=Zaw (xs.getD (i-1) .top)
  ·rw[if_pos hs]at hinv
   have hw:=ZFO std xs i
   simp only[ZaB,Zau,Int.toNat_natCast,e1,Zuh,ZiC]at hw
   have hsm:Zf8 (AV.toI (AV.cellAt (xs.getD i .top) 4)) (AV.toI (AV.cellAt (xs.getD (i-1) .top) 4))=true:=decide_eq_true hs
   rw[hsm]at hw
   refine go hC ZdP hw (by simp;omega) ?_
   exact ZKi hC xs hL hn i _ 1 i xs rfl (Nat.le_refl _) (by omega) (Nat.le_refl _) (by omega) rfl (fun _ _=>rfl) (by rw[Nat.add_sub_cancel];exact hinv)
  ·rw[if_neg hs]at hinv
   have hw:=Zvv std xs i
   simp only[ZaB,Zau,Int.toNat_natCast,e1,e2]at hw
   have hsm:Zf8 (AV.toI (AV.cellAt (xs.getD i .top) 4)) (AV.toI (AV.cellAt (xs.getD (i-1) .top) 4))=false:=decide_eq_false hs
   rw[hsm]at hw
   refine go hC ZdP hw (by simp;omega) (ih (i+1) (by omega) (by omega) (by omega) ?_)
   rw[Nat.add_sub_cancel,←hinv,List.take_succ_eq_append_getElem hlt,←g3,List.append_assoc]
   rfl
theorem ZzF(hp:cpN xs≠xs):Ev C (Ztk xs) (ZmW xs) (Zho 121 140 5 (.big shN (cpZ xs)) (.slc 0 0 0 (cpN xs).length none)):=by
 match xs,hL,hn,hp with
 |[],_,_,hp=>exact absurd rfl hp
 |[x],_,_,hp=>exact absurd rfl hp
 |x::y::l,hL,hn,hp=>
  refine go hC ZdP (ZtZ std (x::y::l)) (by simp;omega) ?_
  exact ZAy hC (x::y::l) hL hn hp _ 1 rfl (Nat.le_refl _) (by simp) rfl
end
section
variable {C:Ctx}(hC:C.P=Try.prog)(xs:List AV)(hL:xs.length<1000000)
include hC hL
theorem Zw4:∀(d i:Nat),xs.length-i=d→1≤i→i≤xs.length→cpA (xs.getD (i-1) .top) (xs.drop i)=xs.drop i→
 Ev C (ZbS xs i) (ZbA xs i) (Zho 121 140 5 (.big shN xs) (.row 0 0)):=by
 intro d
 induction d with
 |zero=>
  intro i hd h1 hi _
  exact ZdB hC ZdP (ZEL std xs i) (by simp;omega) rfl rfl rfl rfl
 |succ d ih=>
  intro i hd h1 hi hinv
  have hlt:i<xs.length:=by omega
  have g3:xs.getD i .top=xs[i]:=by simp[hlt]
  rw[List.drop_eq_getElem_cons hlt,cpA,←g3]at hinv
  have hs:¬Zaw (xs.getD i .top)=Zaw (xs.getD (i-1) .top):=fun hs=>by
   rw[if_pos hs]at hinv
   have:=Zml (xs.drop (i+1)) (xs.getD i .top)
   rw[hinv,List.length_cons]at this
   omega
  rw[if_neg hs]at hinv
  have e1:(std.sub (i:Int) 1).toNat=i-1:=by simp
  have e2:std.add (i:Int) 1=((i+1:Nat):Int):=by simp
  have hw:=Zvv std xs i
  simp only[ZaB,Zau,Int.toNat_natCast,e1,e2]at hw
  have hsm:Zf8 (AV.toI (AV.cellAt (xs.getD i .top) 4)) (AV.toI (AV.cellAt (xs.getD (i-1) .top) 4))=false:=decide_eq_false hs
  rw[hsm]at hw
  exact go hC ZdP hw (by simp;omega) (ih (i+1) (by omega) (by omega) (by omega) (by rw[Nat.add_sub_cancel];exact(List.cons.inj hinv).2))
theorem ZAK(hp:cpN xs=xs):Ev C (Ztk xs) (ZmW xs) (Zho 121 140 5 (.big shN xs) (.row 0 0)):=by
 match xs,hL,hp with
 |[],_,_=>exact ZdB hC ZdP (Zvr std []) (by simp) rfl rfl rfl rfl
 |[x],_,_=>exact ZdB hC ZdP (Zvr std [x]) (by simp) rfl rfl rfl rfl
 |x::y::l,hL,hp=>
  refine go hC ZdP (ZtZ std (x::y::l)) (by simp;omega) ?_
  exact Zw4 hC (x::y::l) hL _ 1 rfl (Nat.le_refl _) (by simp) (List.cons.inj hp).2
end
theorem Zof(xs:List AV)(hL:xs.length<1000000)(hn:ZaH xs=true):ZlH Try.prog 121 140 5 (.big shN xs) (.big shN (cpZ xs)) [.fn 122 []] (.slc 0 0 0 (cpN xs).length none):=by
 by_cases hp:cpN xs=xs
 ·have e:cpZ xs=xs:=by unfold cpZ;rw[hp];simp
  rw[e,hp]
  exact Zr2 (Zgq (ZmS xs) fun C hC=>ZAK hC xs hL hp) (by simp[Row.elems])
 ·exact Zgq (ZmS xs) fun C hC=>ZzF hC xs hL hn hp
theorem Zom(xs:List AV)(h:soB xs=true):Zhy Try.prog 1000121 [.list (.big shN xs), .fn 122 []] (.slc 0 0 0 (cpN xs).length none) (some ⟨140,5, .big shN (cpZ xs)⟩):=by
 unfold soB at h
 simp only[Bool.and_eq_true,decide_eq_true_eq]at h
 exact ZcT (f:=121) rfl (Zof xs (by omega) h.2)
def cpL(xs:List AV):Nat:=(cpN xs).length
theorem ZuH(xs:List AV):cpL xs=(cpN xs).length:=rfl
attribute [irreducible] cpZ cpL
def k121:Ctr:=⟨1000121,0,fun _ a=>match a with |[.list (.big (.agg [.int .i64, .int .i64, .int .i64, .ints .i64, .int .i64]) xs), .fn 122 []]=>some (decide (soB xs=true), .slc 0 0 0 (cpL xs) none,some ⟨140,5, .big shN (cpZ xs)⟩) |_=>none⟩
theorem Zwc:k121.OK Try.prog:=fun pa args r fr h=>by
 simp only[k121]at h
 split at h
 ·simp only[Option.some.injEq,Prod.mk.injEq,decide_eq_true_eq]at h
  obtain⟨h0,rfl,rfl⟩:=h
  exact(by rw[ZuH];exact Zom _ h0)
 ·cases h
def BOk:List Ctr:=[k121]++BOj
theorem Zep:Zap Try.prog BOk:=⟨Zwc,ZdP⟩
end Go.Proofs.Ytjhdnpmojhkbjaa
/- Paths of functions, printed by the explorer (Gx). No condition. -/
namespace Go.Proofs.Ytjhdnpmojhkbjaa
set_option maxRecDepth 100000
set_option linter.unusedVariables false
def ZF9(c:Int)(fs:List AV):AFrame:={ fn:=79,N:=60,env:=[(0,AV.int .i64 c),(1,AV.list (Row.big (Sh.agg [Sh.int .i64,Sh.int .i64,Sh.int .i64,Sh.ints .i64]) fs))],todo:=[.code a79.code],defs:=[],rnd:=none,ret:=false,res:=[ARes.tmp 4] }
def ZMG(c:Int)(fs:List AV):List AFrame:=[(ZF9 c fs)]
theorem ZpQ(c:Int)(fs:List AV):Zam tab 79 [AV.int .i64 c,AV.list (Row.big (Sh.agg [Sh.int .i64,Sh.int .i64,Sh.int .i64,Sh.ints .i64]) fs)]=some (ZF9 c fs):=rfl
def Zdb(c:Int)(fs:List AV)(n0 n1:Int):List AFrame:=[{ fn:=79,N:=60,env:=[(0,AV.int .i64 c),(5,AV.nils),(11,AV.list (Row.big (Sh.agg [Sh.int .i64,Sh.int .i64,Sh.int .i64,Sh.ints .i64]) fs)),(12,AV.int .i64 n0),(13,AV.int .i64 n1)],todo:=.code (ACode.gh [] Zz9)::ZD2,defs:=[],rnd:=none,ret:=false,res:=[ARes.tmp 4] }]
def Zcs(c:Int)(fs:List AV)(n0:Int)(n1:Int):Zaa:=[]
abbrev ZiL(c:Int)(fs:List AV)(n0:Int)(n1:Int):List AFrame×Zaa:=(Zdb c fs n0 n1,Zcs c fs n0 n1)
def Zdy(c:Int)(fs:List AV)(n0 n2:Int)(x3:List AV):List AFrame:=[{ fn:=79,N:=60,env:=[(0,AV.int .i64 c),(5,AV.row 79055 0),(11,AV.list (Row.big (Sh.agg [Sh.int .i64,Sh.int .i64,Sh.int .i64,Sh.ints .i64]) fs)),(12,AV.int .i64 n0),(13,AV.int .i64 n2)],todo:=.code (ACode.gh [] Zz9)::ZD2,defs:=[],rnd:=none,ret:=false,res:=[ARes.tmp 4] }]
def ZcB(c:Int)(fs:List AV)(n0:Int)(n2:Int)(x3:List AV):Zaa:=[(79055,{ base:=0,blks:=[Blk.row 140 5 (Row.big (Sh.agg [Sh.int .i64,Sh.int .i64,Sh.int .i64,Sh.ints .i64,Sh.int .i64]) x3)] })]
abbrev Zev(c:Int)(fs:List AV)(n0:Int)(n2:Int)(x3:List AV):List AFrame×Zaa:=(Zdy c fs n0 n2 x3,ZcB c fs n0 n2 x3)
theorem ZFX(A:Ar)(c:Int)(fs:List AV):Zad A tab BOk 18 [] (ZMG c fs) []=
 some (tr [5] [],
  ZiL (c) (fs) (A.int (A.lenA fs)) (0)):=by kernel_rfl
theorem ZDu(A:Ar)(c:Int)(fs:List AV)(n0 n1:Int):Zad A tab BOk 33 [true,true] (Zdb c fs n0 n1) (Zcs c fs n0 n1)=
 some (tr [1,0,7,0,1] [A.inR .i64 (A.add n1 1),A.not (A.eq ((A.nthA fs (A.nat n1)).cellAt 0).toI c),Zab (Zab (A.le 0 n1) (Nat.blt (A.nat n1) (A.lenA fs))) true,A.lt n1 n0],
  ZiL (c) (fs) (n0) (A.add n1 1)):=by kernel_rfl
theorem ZHG(A:Ar)(c:Int)(fs:List AV)(n0 n1:Int):Zad A tab BOk 60 [true,false,false] (Zdb c fs n0 n1) (Zcs c fs n0 n1)=
 some (tr [1,1,0,2,6,3,7,0,1] [A.inR .i64 (A.add n1 1),Zab (Nat.ble (A.lenA [AV.agg (Row.gen [.int .i64 ((A.nthA fs (A.nat n1)).cellAt 0).toI, .int .i64 ((A.nthA fs (A.nat n1)).cellAt 1).toI, .int .i64 ((A.nthA fs (A.nat n1)).cellAt 2).toI, .list (.ints .i64 ((A.nthA fs (A.nat n1)).cellAt 3).toIs), .int .i64 (A.add ((A.nthA fs (A.nat n1)).cellAt 1).toI 64)])]) 4294967296) (Nat.blt 0 (A.lenA [AV.agg (Row.gen [.int .i64 ((A.nthA fs (A.nat n1)).cellAt 0).toI, .int .i64 ((A.nthA fs (A.nat n1)).cellAt 1).toI, .int .i64 ((A.nthA fs (A.nat n1)).cellAt 2).toI, .list (.ints .i64 ((A.nthA fs (A.nat n1)).cellAt 3).toIs), .int .i64 (A.add ((A.nthA fs (A.nat n1)).cellAt 1).toI 64)])])),List.all [AV.agg (Row.gen [.int .i64 ((A.nthA fs (A.nat n1)).cellAt 0).toI, .int .i64 ((A.nthA fs (A.nat n1)).cellAt 1).toI, .int .i64 ((A.nthA fs (A.nat n1)).cellAt 2).toI, .list (.ints .i64 ((A.nthA fs (A.nat n1)).cellAt 3).toIs), .int .i64 (A.add ((A.nthA fs (A.nat n1)).cellAt 1).toI 64)])] fun x=>AV.bx x&&Nat.beq (Zac A x) 5,!A.lt 0 (A.int 0),A.inR .i64 (A.add ((A.nthA fs (A.nat n1)).cellAt 1).toI 64),!A.not (A.eq ((A.nthA fs (A.nat n1)).cellAt 0).toI c),Zab (Zab (A.le 0 n1) (Nat.blt (A.nat n1) (A.lenA fs))) true,A.lt n1 n0],
  Zev (c) (fs) (n0) (A.add n1 1) ([AV.agg (Row.gen [.int .i64 ((A.nthA fs (A.nat n1)).cellAt 0).toI, .int .i64 ((A.nthA fs (A.nat n1)).cellAt 1).toI, .int .i64 ((A.nthA fs (A.nat n1)).cellAt 2).toI, .list (.ints .i64 ((A.nthA fs (A.nat n1)).cellAt 3).toIs), .int .i64 (A.add ((A.nthA fs (A.nat n1)).cellAt 1).toI 64)])])):=by kernel_rfl
theorem ZJc(A:Ar)(c:Int)(fs:List AV)(n0 n1:Int):ZaE A tab BOk 20 [false] 79 (Zdb c fs n0 n1) (Zcs c fs n0 n1)=
 some (tr [6,1] [!A.lt n1 n0],
  AV.nils,none):=by kernel_rfl
theorem ZIx(A:Ar)(c:Int)(fs:List AV)(n0 n2:Int)(x3:List AV):Zad A tab BOk 33 [true,true] (Zdy c fs n0 n2 x3) (ZcB c fs n0 n2 x3)=
 some (tr [1,0,7,0,1] [A.inR .i64 (A.add n2 1),A.not (A.eq ((A.nthA fs (A.nat n2)).cellAt 0).toI c),Zab (Zab (A.le 0 n2) (Nat.blt (A.nat n2) (A.lenA fs))) true,A.lt n2 n0],
  Zev (c) (fs) (n0) (A.add n2 1) (x3)):=by kernel_rfl
theorem ZIE(A:Ar)(c:Int)(fs:List AV)(n0 n2:Int)(x3:List AV):Zad A tab BOk 102 [true,false,true,true] (Zdy c fs n0 n2 x3) (ZcB c fs n0 n2 x3)=
 some (tr [1,1,0,4,3,1,3,0,0,0,4,1,0,3,6,3,7,0,1] [A.inR .i64 (A.add n2 1),Nat.ble (A.lenA x3+A.lenA [AV.agg (Row.gen [.int .i64 ((A.nthA fs (A.nat n2)).cellAt 0).toI, .int .i64 ((A.nthA fs (A.nat n2)).cellAt 1).toI, .int .i64 ((A.nthA fs (A.nat n2)).cellAt 2).toI, .list (.ints .i64 ((A.nthA fs (A.nat n2)).cellAt 3).toIs), .int .i64 (A.add ((A.nthA x3 (A.nat (A.sub (A.int (A.lenA x3)) 1))).cellAt 4).toI (A.sub (A.rem (A.add (A.rem (A.sub ((A.nthA fs (A.nat n2)).cellAt 1).toI ((A.nthA x3 (A.nat (A.sub (A.int (A.lenA x3)) 1))).cellAt 4).toI) 64) 64) 64) 64))])]) 4294967296,List.all [AV.agg (Row.gen [.int .i64 ((A.nthA fs (A.nat n2)).cellAt 0).toI, .int .i64 ((A.nthA fs (A.nat n2)).cellAt 1).toI, .int .i64 ((A.nthA fs (A.nat n2)).cellAt 2).toI, .list (.ints .i64 ((A.nthA fs (A.nat n2)).cellAt 3).toIs), .int .i64 (A.add ((A.nthA x3 (A.nat (A.sub (A.int (A.lenA x3)) 1))).cellAt 4).toI (A.sub (A.rem (A.add (A.rem (A.sub ((A.nthA fs (A.nat n2)).cellAt 1).toI ((A.nthA x3 (A.nat (A.sub (A.int (A.lenA x3)) 1))).cellAt 4).toI) 64) 64) 64) 64))])] fun x=>AV.bx x&&Nat.beq (Zac A x) 5,A.inR .i64 (A.add ((A.nthA x3 (A.nat (A.sub (A.int (A.lenA x3)) 1))).cellAt 4).toI (A.sub (A.rem (A.add (A.rem (A.sub ((A.nthA fs (A.nat n2)).cellAt 1).toI ((A.nthA x3 (A.nat (A.sub (A.int (A.lenA x3)) 1))).cellAt 4).toI) 64) 64) 64) 64)),A.inR .i64 (A.sub (A.rem (A.add (A.rem (A.sub ((A.nthA fs (A.nat n2)).cellAt 1).toI ((A.nthA x3 (A.nat (A.sub (A.int (A.lenA x3)) 1))).cellAt 4).toI) 64) 64) 64) 64),A.lt 32 (A.rem (A.add (A.rem (A.sub ((A.nthA fs (A.nat n2)).cellAt 1).toI ((A.nthA x3 (A.nat (A.sub (A.int (A.lenA x3)) 1))).cellAt 4).toI) 64) 64) 64),A.not (A.eq 64 0),A.inR .i64 (A.add (A.rem (A.sub ((A.nthA fs (A.nat n2)).cellAt 1).toI ((A.nthA x3 (A.nat (A.sub (A.int (A.lenA x3)) 1))).cellAt 4).toI) 64) 64),A.not (A.eq 64 0),A.inR .i64 (A.sub ((A.nthA fs (A.nat n2)).cellAt 1).toI ((A.nthA x3 (A.nat (A.sub (A.int (A.lenA x3)) 1))).cellAt 4).toI),Zab (Nat.blt (A.nat (A.sub (A.int (A.lenA x3)) 1)) (A.lenA x3)) true,Zab (A.le 0 (A.sub (A.int (A.lenA x3)) 1)) (Nat.blt (A.nat (A.sub (A.int (A.lenA x3)) 1)) (A.lenA x3)),A.inR .i64 (A.sub (A.int (A.lenA x3)) 1),A.lt 0 (A.int (A.lenA x3)),A.inR .i64 (A.add ((A.nthA fs (A.nat n2)).cellAt 1).toI 64),!A.not (A.eq ((A.nthA fs (A.nat n2)).cellAt 0).toI c),Zab (Zab (A.le 0 n2) (Nat.blt (A.nat n2) (A.lenA fs))) true,A.lt n2 n0],
  Zev (c) (fs) (n0) (A.add n2 1) (A.appA x3 [AV.agg (Row.gen [.int .i64 ((A.nthA fs (A.nat n2)).cellAt 0).toI, .int .i64 ((A.nthA fs (A.nat n2)).cellAt 1).toI, .int .i64 ((A.nthA fs (A.nat n2)).cellAt 2).toI, .list (.ints .i64 ((A.nthA fs (A.nat n2)).cellAt 3).toIs), .int .i64 (A.add ((A.nthA x3 (A.nat (A.sub (A.int (A.lenA x3)) 1))).cellAt 4).toI (A.sub (A.rem (A.add (A.rem (A.sub ((A.nthA fs (A.nat n2)).cellAt 1).toI ((A.nthA x3 (A.nat (A.sub (A.int (A.lenA x3)) 1))).cellAt 4).toI) 64) 64) 64) 64))])])):=by kernel_rfl
theorem ZKV(A:Ar)(c:Int)(fs:List AV)(n0 n2:Int)(x3:List AV):Zad A tab BOk 98 [true,false,true,false] (Zdy c fs n0 n2 x3) (ZcB c fs n0 n2 x3)=
 some (tr [1,1,0,4,2,3,0,0,0,4,1,0,3,6,3,7,0,1] [A.inR .i64 (A.add n2 1),Nat.ble (A.lenA x3+A.lenA [AV.agg (Row.gen [.int .i64 ((A.nthA fs (A.nat n2)).cellAt 0).toI, .int .i64 ((A.nthA fs (A.nat n2)).cellAt 1).toI, .int .i64 ((A.nthA fs (A.nat n2)).cellAt 2).toI, .list (.ints .i64 ((A.nthA fs (A.nat n2)).cellAt 3).toIs), .int .i64 (A.add ((A.nthA x3 (A.nat (A.sub (A.int (A.lenA x3)) 1))).cellAt 4).toI (A.rem (A.add (A.rem (A.sub ((A.nthA fs (A.nat n2)).cellAt 1).toI ((A.nthA x3 (A.nat (A.sub (A.int (A.lenA x3)) 1))).cellAt 4).toI) 64) 64) 64))])]) 4294967296,List.all [AV.agg (Row.gen [.int .i64 ((A.nthA fs (A.nat n2)).cellAt 0).toI, .int .i64 ((A.nthA fs (A.nat n2)).cellAt 1).toI, .int .i64 ((A.nthA fs (A.nat n2)).cellAt 2).toI, .list (.ints .i64 ((A.nthA fs (A.nat n2)).cellAt 3).toIs), .int .i64 (A.add ((A.nthA x3 (A.nat (A.sub (A.int (A.lenA x3)) 1))).cellAt 4).toI (A.rem (A.add (A.rem (A.sub ((A.nthA fs (A.nat n2)).cellAt 1).toI ((A.nthA x3 (A.nat (A.sub (A.int (A.lenA x3)) 1))).cellAt 4).toI) 64) 64) 64))])] fun x=>AV.bx x&&Nat.beq (Zac A x) 5,A.inR .i64 (A.add ((A.nthA x3 (A.nat (A.sub (A.int (A.lenA x3)) 1))).cellAt 4).toI (A.rem (A.add (A.rem (A.sub ((A.nthA fs (A.nat n2)).cellAt 1).toI ((A.nthA x3 (A.nat (A.sub (A.int (A.lenA x3)) 1))).cellAt 4).toI) 64) 64) 64)),!A.lt 32 (A.rem (A.add (A.rem (A.sub ((A.nthA fs (A.nat n2)).cellAt 1).toI ((A.nthA x3 (A.nat (A.sub (A.int (A.lenA x3)) 1))).cellAt 4).toI) 64) 64) 64),A.not (A.eq 64 0),A.inR .i64 (A.add (A.rem (A.sub ((A.nthA fs (A.nat n2)).cellAt 1).toI ((A.nthA x3 (A.nat (A.sub (A.int (A.lenA x3)) 1))).cellAt 4).toI) 64) 64),A.not (A.eq 64 0),A.inR .i64 (A.sub ((A.nthA fs (A.nat n2)).cellAt 1).toI ((A.nthA x3 (A.nat (A.sub (A.int (A.lenA x3)) 1))).cellAt 4).toI),Zab (Nat.blt (A.nat (A.sub (A.int (A.lenA x3)) 1)) (A.lenA x3)) true,Zab (A.le 0 (A.sub (A.int (A.lenA x3)) 1)) (Nat.blt (A.nat (A.sub (A.int (A.lenA x3)) 1)) (A.lenA x3)),A.inR .i64 (A.sub (A.int (A.lenA x3)) 1),A.lt 0 (A.int (A.lenA x3)),A.inR .i64 (A.add ((A.nthA fs (A.nat n2)).cellAt 1).toI 64),!A.not (A.eq ((A.nthA fs (A.nat n2)).cellAt 0).toI c),Zab (Zab (A.le 0 n2) (Nat.blt (A.nat n2) (A.lenA fs))) true,A.lt n2 n0],
  Zev (c) (fs) (n0) (A.add n2 1) (A.appA x3 [AV.agg (Row.gen [.int .i64 ((A.nthA fs (A.nat n2)).cellAt 0).toI, .int .i64 ((A.nthA fs (A.nat n2)).cellAt 1).toI, .int .i64 ((A.nthA fs (A.nat n2)).cellAt 2).toI, .list (.ints .i64 ((A.nthA fs (A.nat n2)).cellAt 3).toIs), .int .i64 (A.add ((A.nthA x3 (A.nat (A.sub (A.int (A.lenA x3)) 1))).cellAt 4).toI (A.rem (A.add (A.rem (A.sub ((A.nthA fs (A.nat n2)).cellAt 1).toI ((A.nthA x3 (A.nat (A.sub (A.int (A.lenA x3)) 1))).cellAt 4).toI) 64) 64) 64))])])):=by kernel_rfl
theorem ZJf(A:Ar)(c:Int)(fs:List AV)(n0 n2:Int)(x3:List AV):ZaE A tab BOk 20 [false] 79 (Zdy c fs n0 n2 x3) (ZcB c fs n0 n2 x3)=
 some (tr [2,1,1,1] [Zab (Nat.ble (cpL (List.foldl ZgP [] x3)) (A.lenA (cpZ (List.foldl ZgP [] x3)))) (Zab (decide (soB (List.foldl ZgP [] x3)=true)) true),Zab (decide (soB x3=true)) true,!A.lt n2 n0],
  AV.row 0 0,some { e:=140,sz:=5,r:=Row.big (.agg [.int .i64, .int .i64, .int .i64, .ints .i64, .int .i64]) (A.subA (cpZ (List.foldl ZgP [] x3)) 0 (cpL (List.foldl ZgP [] x3))) }):=by kernel_rfl
end Go.Proofs.Ytjhdnpmojhkbjaa
/- Contracts as a list. No condition. -/
namespace Go.Proofs.Ytjhdnpmojhkbjaa
theorem ZtV{f:FuncId}{args:List AV}{e sz:Nat}{r:Row}(h:ZaK Try.prog f args (.row 0 0) (some ⟨e,sz+1,r⟩))(hp:r.pure=true):ZaK Try.prog f args (.list r) none:=by
 intro w okA L vs hargs hok
 refine(h w okA L vs hargs hok).mono ?_
 rintro e' w' ⟨x,L',rfl,hb,hpo⟩
 obtain⟨H,hr⟩:HRel (Ctx.of Try.prog w okA []) (Zaj (some ⟨e,sz+1,r⟩)) L' w'∧ZaA (Ctx.of Try.prog w okA []) (Zaj (some ⟨e,sz+1,r⟩)) L' w' (.row 0 0) x:=hpo
 refine⟨x,L',rfl,hb,?_⟩
 show HRel _ (Zaj none) L' w'∧ZaA _ (Zaj none) L' w' (.list r) x
 refine⟨H.nil,?_⟩
 have hbk:blk (Zaj (some ⟨e,sz+1,r⟩)) 0 0=.row e (sz+1) r:=rfl
 obtain⟨ht,h0,h1,h2,h3,cur,h4,h5,h6,h7,h8⟩:=H.rowAt hbk
 have hl:=H.live 0 0 (by rw[ht];simp)
 cases hr with
 |row _ _ g o n c hn hlv=>
  obtain⟨rfl,rfl,rfl,rfl⟩:=hlv.2 _ ht
  have hpa:=ZaG hp
  exact .list r _ rfl ⟨L'.loc 0 0,0,none⟩ _ _ (sz+1) _ hl.2 (.inr ⟨hl.1,fun a i ht=>absurd rfl ht⟩) rfl hn h3 h6.1.symm h7 (fun j v hj=>h8 j v hj) hpa
   (fun j u v hu hv=>((h6.2 j u v hu hv).okmono (fun g _ ho=>Zcn ho)).pure (AV.pureL_mem hpa hu))
theorem ZrL(L c:Int):((c-L).tmod 64+64).tmod 64=ZqA (c-L) 64:=by
 rw[Zfy]
 rcases Int.le_total 0 (c-L)with h |h
 ·rw[Int.tmod_eq_emod_of_nonneg h,Int.tmod_eq_emod_of_nonneg (by omega)];omega
 ·obtain⟨y,hy⟩:∃y,c-L= -y:=⟨-(c-L),by omega⟩
  rw[hy,Int.neg_tmod,Int.tmod_eq_emod_of_nonneg (by omega:(0:Int)≤y),Int.tmod_eq_emod_of_nonneg (by omega)];omega
def Zcc(X:List AV):Int:=Zaw (X.getD (X.length-1) .top)
theorem Ziq(X:List AV)(x:AV):Zcc (X++[x])=Zaw x:=by
 unfold Zcc
 simp
theorem ZpR(X:List AV)(f:AV)(k:Int)(h:ZaH X=true):ZaH (X++[ZlX f k])=true:=by
 rw[Zbf,h];rfl
theorem ZnI(x:Int): -64<x.tmod 64∧x.tmod 64<64:=by
 rcases Int.le_total 0 x with h |h
 ·rw[Int.tmod_eq_emod_of_nonneg h];omega
 ·obtain⟨y,rfl⟩:∃y,x= -y:=⟨-x,by omega⟩
  rw[Int.neg_tmod,Int.tmod_eq_emod_of_nonneg (by omega:(0:Int)≤y)];omega
theorem Zo9{X:List AV}(h:ZaH X=true):ZaH (Zay X)=true:=by
 unfold ZaH at*
 rw[List.all_eq_true]at*
 intro x hx
 exact h x (ZfA hx)
def ZgX(c:Int)(fs:List AV):List AV:=cpN (Zay (ZcR c fs))
section
variable {C:Ctx}(hC:C.P=Try.prog)(c:Int)(fs:List AV)(hfl:fs.length<10000)(hct:ctB fs=true)
include hC hfl hct
theorem ZKQ:∀(d i:Nat) (X:List AV),fs.length-i=d→i≤fs.length→X≠[]→X.length≤i→ZaH X=true→(-32*(i:Int)≤Zcc X∧Zcc X≤200+32*i)→X++ZlJ c (fs.drop i) (Zcc X)=ZcR c fs→
 Ev C (Zdy c fs fs.length i X) (ZcB c fs fs.length i X) (ZeX 79 (.row 0 0) (some ⟨140,5, .big shN (ZgX c fs)⟩)):=by
 intro d
 induction d with
 |zero=>
  intro i X hd hi hX hXl hn hb hinv
  rw[List.drop_of_length_le (by omega),ZlJ,List.append_nil]at hinv
  have hw:=ZJf std c fs fs.length i X
  rw[show List.foldl ZgP [] X=Zay X from rfl,ZuH]at hw
  have hl:(Zay X).length=X.length:=Zcd X
  have hsl:=Zro (Zay X)
  have s1:soB X=true:=by unfold soB;rw[hn,Bool.and_true];exact decide_eq_true (by omega)
  have s2:soB (Zay X)=true:=by unfold soB;rw[Zo9 hn,Bool.and_true];exact decide_eq_true (by omega)
  have hz:(cpZ (Zay X)).length=(Zay X).length:=by unfold cpZ;rw[List.length_append,List.length_replicate];omega
  have hz2:std.subA (cpZ (Zay X)) 0 (cpN (Zay X)).length=cpN (Zay X):=by
   show sub3 _ _ _=_
   unfold cpZ sub3
   simp
  rw[hz2,s1,s2]at hw
  refine fin hC Zep hw ?_ rfl ?_
  ·simp only[ZiC,hz];simp[hl];omega
  ·unfold ZgX;rw[←hinv]
 |succ d ih=>
  intro i X hd hi hX hXl hn hb hinv
  have hlt:i<fs.length:=by omega
  have hg:fs.getD i .top=fs[i]:=by simp[hlt]
  have hcf:0≤ctF fs[i]∧ctF fs[i]≤63:=by
   have:=List.all_eq_true.mp hct fs[i] (List.getElem_mem hlt)
   exact of_decide_eq_true this
  have hXp:0<X.length:=List.length_pos_iff.mpr hX
  have e1:(std.sub (std.int X.length) 1).toNat=X.length-1:=by simp
  have e2:std.add (i:Int) 1=((i+1:Nat):Int):=by simp
  rw[List.drop_eq_getElem_cons hlt,ZlJ]at hinv
  by_cases hch:chF fs[i]=c
  ·rw[if_pos hch]at hinv
   have hch':AV.toI (AV.cellAt fs[i] 0)=c:=hch
   have hnr:=Zno (Zcc X) (ctF fs[i])
   have hm:=ZrL (Zcc X) (ctF fs[i])
   have hm2:=Zfy (ctF fs[i]-Zcc X)
   have hne:Zfp (Zcc X) (ctF fs[i])=if ZqA (ctF fs[i]-Zcc X) 64≤32 then Zcc X+ZqA (ctF fs[i]-Zcc X) 64 else Zcc X+ZqA (ctF fs[i]-Zcc X) 64-64:=rfl
   have ih':=ih (i+1) (X++[ZlX fs[i] (Zfp (Zcc X) (ctF fs[i]))]) (by omega) (by omega) (by simp) (by simp;omega) (ZpR _ _ _ hn) (by rw[Ziq,ZjC];omega) (by rw[Ziq,ZjC,List.append_assoc];exact hinv)
   by_cases hm3:ZqA (ctF fs[i]-Zcc X) 64≤32
   ·rw[if_pos hm3]at hne
    have hw:=ZKV std c fs fs.length i X
    simp only[ZaB,Zau,ZiC,Znk,Int.toNat_natCast,hg,e1,e2,hch']at hw
    simp only[show (AV.cellAt fs[i] 1).toI=ctF fs[i]from rfl,show(AV.cellAt (X.getD (X.length-1) .top) 4).toI=Zcc X from rfl]at hw
    simp only[ZaD,ZcE,ZA9,hm]at hw
    rw[←hne]at hw
    rw[←hch',show(AV.agg (Row.gen [AV.int .i64 (AV.toI (AV.cellAt fs[i] 0)),AV.int .i64 (ctF fs[i]),AV.int .i64 (AV.toI (AV.cellAt fs[i] 2)),AV.list (.ints .i64 (AV.toIs (AV.cellAt fs[i] 3))),AV.int .i64 (Zfp (Zcc X) (ctF fs[i]))]))=ZlX fs[i] (Zfp (Zcc X) (ctF fs[i]))from rfl,hch']at hw
    refine go hC Zep hw ?_ ih'
    have hr:=ZnI (ctF fs[i]-Zcc X)
    generalize Zcc X=L at*
    generalize ctF fs[i]=q at*
    simp[hlt,AV.bx,Zac,Row.len,ZlX]
    omega
   ·rw[if_neg hm3]at hne
    have hw:=ZIE std c fs fs.length i X
    simp only[ZaB,Zau,ZiC,Znk,Int.toNat_natCast,hg,e1,e2,hch']at hw
    simp only[show (AV.cellAt fs[i] 1).toI=ctF fs[i]from rfl,show(AV.cellAt (X.getD (X.length-1) .top) 4).toI=Zcc X from rfl]at hw
    simp only[ZaD,ZcE,ZA9,hm]at hw
    rw[Int.add_sub_assoc]at hne
    rw[←hne]at hw
    rw[←hch',show(AV.agg (Row.gen [AV.int .i64 (AV.toI (AV.cellAt fs[i] 0)),AV.int .i64 (ctF fs[i]),AV.int .i64 (AV.toI (AV.cellAt fs[i] 2)),AV.list (.ints .i64 (AV.toIs (AV.cellAt fs[i] 3))),AV.int .i64 (Zfp (Zcc X) (ctF fs[i]))]))=ZlX fs[i] (Zfp (Zcc X) (ctF fs[i]))from rfl,hch']at hw
    refine go hC Zep hw ?_ ih'
    have hr:=ZnI (ctF fs[i]-Zcc X)
    generalize Zcc X=L at*
    generalize ctF fs[i]=q at*
    simp[hlt,AV.bx,Zac,Row.len,ZlX]
    omega
  ·rw[if_neg hch]at hinv
   have hch':¬AV.toI (AV.cellAt fs[i] 0)=c:=hch
   have hw:=ZIx std c fs fs.length i X
   simp only[ZaB,Zau,Int.toNat_natCast,hg,e2]at hw
   exact go hC Zep hw (by simp[hlt,hch'];omega) (ih (i+1) X (by omega) (by omega) hX (by omega) hn (by omega) hinv)
theorem ZKb:∀(d i:Nat),fs.length-i=d→i≤fs.length→(ZcR c (fs.drop i)=ZcR c fs)→ZcR c fs≠[]→
 Ev C (Zdb c fs fs.length i) (Zcs c fs fs.length i) (ZeX 79 (.row 0 0) (some ⟨140,5, .big shN (ZgX c fs)⟩)):=by
 intro d
 induction d with
 |zero=>
  intro i hd hi hinv hne
  rw[List.drop_of_length_le (by omega)]at hinv
  exact absurd hinv.symm hne
 |succ d ih=>
  intro i hd hi hinv hne
  have hlt:i<fs.length:=by omega
  have hg:fs.getD i .top=fs[i]:=by simp[hlt]
  have hcf:0≤ctF fs[i]∧ctF fs[i]≤63:=by
   have:=List.all_eq_true.mp hct fs[i] (List.getElem_mem hlt)
   exact of_decide_eq_true this
  have e2:std.add (i:Int) 1=((i+1:Nat):Int):=by simp
  rw[List.drop_eq_getElem_cons hlt,ZcR]at hinv
  by_cases hch:chF fs[i]=c
  ·rw[if_pos hch]at hinv
   have hch':AV.toI (AV.cellAt fs[i] 0)=c:=hch
   have hw:=ZHG std c fs fs.length i
   simp only[ZaB,Zau,Int.toNat_natCast,hg,e2,hch']at hw
   simp only[show (AV.cellAt fs[i] 1).toI=ctF fs[i]from rfl,ZcE]at hw
   rw[←hch',show(AV.agg (Row.gen [AV.int .i64 (AV.toI (AV.cellAt fs[i] 0)),AV.int .i64 (ctF fs[i]),AV.int .i64 (AV.toI (AV.cellAt fs[i] 2)),AV.list (.ints .i64 (AV.toIs (AV.cellAt fs[i] 3))),AV.int .i64 (ctF fs[i]+64)]))=ZlX fs[i] (ctF fs[i]+64)from rfl,hch']at hw
   refine go hC Zep hw ?_ (ZKQ hC c fs hfl hct _ (i+1) [ZlX fs[i] (ctF fs[i]+64)] rfl (by omega) (by simp) (by simp) rfl ?_ ?_)
   ·generalize ctF fs[i]=q at*
    simp[hlt,AV.bx,Zac,Row.len,ZlX]
    omega
   ·show -32*(((i+1:Nat):Nat):Int)≤ctF fs[i]+64∧ctF fs[i]+64≤200+32*(((i+1:Nat):Nat):Int)
    omega
   ·exact hinv
  ·rw[if_neg hch]at hinv
   have hch':¬AV.toI (AV.cellAt fs[i] 0)=c:=hch
   have hw:=ZDu std c fs fs.length i
   simp only[ZaB,Zau,Int.toNat_natCast,hg,e2]at hw
   exact go hC Zep hw (by simp[hlt,hch'];omega) (ih (i+1) (by omega) (by omega) hinv hne)
end
section
variable {C:Ctx}(hC:C.P=Try.prog)(c:Int)(fs:List AV)(hfl:fs.length<10000)
include hC hfl
theorem ZKy:∀(d i:Nat),fs.length-i=d→i≤fs.length→ZcR c (fs.drop i)=[]→
 Ev C (Zdb c fs fs.length i) (Zcs c fs fs.length i) (ZeX 79 .nils none):=by
 intro d
 induction d with
 |zero=>intro i hd hi _;exact fin hC Zep (ZJc std c fs fs.length i) (by simp;omega) rfl rfl
 |succ d ih=>
  intro i hd hi hinv
  have hlt:i<fs.length:=by omega
  have hg:fs.getD i .top=fs[i]:=by simp[hlt]
  have e2:std.add (i:Int) 1=((i+1:Nat):Int):=by simp
  rw[List.drop_eq_getElem_cons hlt,ZcR]at hinv
  by_cases hch:chF fs[i]=c
  ·rw[if_pos hch]at hinv;cases hinv
  ·rw[if_neg hch]at hinv
   have hch':¬AV.toI (AV.cellAt fs[i] 0)=c:=hch
   have hw:=ZDu std c fs fs.length i
   simp only[ZaB,Zau,Int.toNat_natCast,hg,e2]at hw
   exact go hC Zep hw (by simp[hlt,hch'];omega) (ih (i+1) (by omega) (by omega) hinv)
end
theorem ZKr(c:Int)(fs:List AV)(h:nmB fs=true):ZaK Try.prog 79 [.int .i64 c, .list (.big ZAC fs)] (.list (.big shN (ZgX c fs))) none:=by
 unfold nmB at h
 simp only[Bool.and_eq_true,decide_eq_true_eq]at h
 by_cases h0:ZcR c fs=[]
 ·have e:ZgX c fs=[]:=by unfold ZgX;rw[h0];rfl
  rw[e]
  exact wk2 (start (ZpQ c fs) fun C hC=>go hC Zep (ZFX std c fs) (by simp) (by
   have:=ZKy hC c fs h.1 fs.length 0 (by omega) (by omega) (by simpa using h0)
   simpa using this)) (.one (.nil _ rfl))
 ·exact ZtV (e:=140) (sz:=4) (start (ZpQ c fs) fun C hC=>go hC Zep (ZFX std c fs) (by simp) (by
   have:=ZKb hC c fs h.1 h.2 fs.length 0 (by omega) (by omega) (by simp) h0
   simpa using this)) rfl
theorem ZpA(c:Int)(fs:List AV):ZgX c fs=cpN (Zay (ZcR c fs)):=rfl
attribute [irreducible] ZgX
def k79:Ctr:=⟨79,0,fun _ a=>match a with |[.int .i64 c, .list (.big (.agg [.int .i64, .int .i64, .int .i64, .ints .i64]) fs)]=>some (decide (nmB fs=true), .list (.big shN (ZgX c fs)),none) |_=>none⟩
theorem ZGM:k79.OK Try.prog:=fun pa args r fr h=>by
 simp only[k79]at h
 split at h
 ·simp only[Option.some.injEq,Prod.mk.injEq,decide_eq_true_eq]at h
  obtain⟨h0,rfl,rfl⟩:=h
  exact ZKr _ _ h0
 ·cases h
def BOl:List Ctr:=[k79]++BOk
theorem ZEZ:Zap Try.prog BOl:=⟨ZGM,Zep⟩
end Go.Proofs.Ytjhdnpmojhkbjaa
/- Owned rows that come back are read as lists. No condition. -/
namespace Go.Proofs.Ytjhdnpmojhkbjaa
inductive Frz2N (r:Row):AV→AV→Prop
 |row:Frz2N r (.row 0 0) (.list r)
 |same (v:AV) (hp:v.pure=true):Frz2N r v v
def Frz2NL(r:Row):List AV→List AV→Prop
 |[],[]=>True
 |x::xs,y::ys=>Frz2N r x y∧Frz2NL r xs ys
 |_,_=>False
theorem Frz2NL.spec{r:Row} :∀ {xs ys:List AV},Frz2NL r xs ys→xs.length=ys.length∧∀(j:Nat) (y:AV),ys[j]? =some y→∃x,xs[j]? =some x∧Frz2N r x y
 |[],[],_=>⟨rfl,fun j y h=>by simp at h⟩
 |x::xs,y::ys,h=>by
  obtain⟨h1,h2⟩:=h
  obtain⟨e1,e2⟩:=Frz2NL.spec h2
  refine⟨by simp[e1],fun j z hz=>?_⟩
  cases j with
  |zero=>simp at hz;subst hz;exact⟨x,rfl,h1⟩
  |succ j=>obtain⟨q,q1,q2⟩:=e2 j z (by simpa using hz);exact⟨q,by simpa using q1,q2⟩
theorem ZmQ{f:FuncId}{args xs ys:List AV}{e sz:Nat}{r:Row}(h:ZaK Try.prog f args (.tup xs) (some ⟨e,sz+1,r⟩))(hp:r.pure=true)(hs:Frz2NL r xs ys):ZaK Try.prog f args (.tup ys) none:=by
 intro w okA L vs hargs hok
 refine(h w okA L vs hargs hok).mono ?_
 rintro e' w' ⟨x,L',rfl,hb,hpo⟩
 obtain⟨H,hr⟩:HRel (Ctx.of Try.prog w okA []) (Zaj (some ⟨e,sz+1,r⟩)) L' w'∧ZaA (Ctx.of Try.prog w okA []) (Zaj (some ⟨e,sz+1,r⟩)) L' w' (.tup xs) x:=hpo
 refine⟨x,L',rfl,hb,?_⟩
 show HRel _ (Zaj none) L' w'∧ZaA _ (Zaj none) L' w' (.tup ys) x
 refine⟨H.nil,?_⟩
 have hbk:blk (Zaj (some ⟨e,sz+1,r⟩)) 0 0=.row e (sz+1) r:=rfl
 obtain⟨ht,h0,h1,h2,h3,cur,h4,h5,h6,h7,h8⟩:=H.rowAt hbk
 have hl:=H.live 0 0 (by rw[ht];simp)
 have hpa:=ZaG hp
 obtain⟨e1,e2⟩:=hs.spec
 cases hr with
 |tup _ vs hlen hrr=>
  refine .tup _ vs (by rw[←e1];exact hlen) (fun j u v hu hv=>?_)
  obtain⟨q,q1,q2⟩:=e2 j u hu
  have hqv:=hrr j q v q1 hv
  cases q2 with
  |same _ hpu=>exact(hqv.okmono (fun g _ ho=>Zcn ho)).pure hpu
  |row=>
   cases hqv with
   |row _ _ g o n c hn hlv=>
    obtain⟨rfl,rfl,rfl,rfl⟩:=hlv.2 _ ht
    exact .list r _ rfl ⟨L'.loc 0 0,0,none⟩ _ _ (sz+1) _ hl.2 (.inr ⟨hl.1,fun a i ht=>absurd rfl ht⟩) rfl hn h3 h6.1.symm h7 (fun j v hj=>h8 j v hj) hpa
     (fun j u v hu hv=>((h6.2 j u v hu hv).okmono (fun g _ ho=>Zcn ho)).pure (AV.pureL_mem hpa hu))
end Go.Proofs.Ytjhdnpmojhkbjaa
/- Contracts as a list. No condition. -/
namespace Go.Proofs.Ytjhdnpmojhkbjaa
theorem Zkk(c:Int):∀(fs:List AV) (last:Int),∀x∈ZlJ c fs last,last-32*(fs.length:Int)≤Zaw x∧Zaw x≤last+32*(fs.length:Int)
 |[],_,x,hx=>by simp[ZlJ]at hx
 |f::fs,last,x,hx=>by
  unfold ZlJ at hx
  have hn:=Zno last (ctF f)
  split at hx
  ·rcases List.mem_cons.1 hx with rfl |hx
   ·rw[ZjC];simp only[List.length_cons];omega
   ·have:=Zkk c fs _ x hx;simp only[List.length_cons];omega
  ·have:=Zkk c fs _ x hx;simp only[List.length_cons];omega
theorem ZkG(c:Int):∀(fs:List AV),ctB fs=true→∀x∈ZcR c fs, -32*(fs.length:Int)≤Zaw x∧Zaw x≤200+32*(fs.length:Int)
 |[],_,x,hx=>by simp[ZcR]at hx
 |f::fs,h,x,hx=>by
  have h1:0≤ctF f∧ctF f≤63:=of_decide_eq_true (List.all_eq_true.mp h f (by simp))
  have h2:ctB fs=true:=List.all_eq_true.mpr fun g hg=>List.all_eq_true.mp h g (by simp[hg])
  unfold ZcR at hx
  split at hx
  ·rcases List.mem_cons.1 hx with rfl |hx
   ·rw[ZjC];simp only[List.length_cons];omega
   ·have:=Zkk c fs _ x hx;simp only[List.length_cons];omega
  ·have:=ZkG c fs h2 x hx;simp only[List.length_cons];omega
theorem Zj4(c:Int):∀(fs:List AV) (last:Int),(ZlJ c fs last).length≤fs.length
 |[],_=>Nat.le_refl _
 |f::fs,last=>by
  unfold ZlJ
  split
  ·have:=Zj4 c fs (Zfp last (ctF f));simp only[List.length_cons];omega
  ·have:=Zj4 c fs last;simp only[List.length_cons];omega
theorem Zlf(c:Int):∀(fs:List AV),(ZcR c fs).length≤fs.length
 |[]=>Nat.le_refl _
 |f::fs=>by
  unfold ZcR
  split
  ·have:=Zj4 c fs (ctF f+64);simp only[List.length_cons];omega
  ·have:=Zlf c fs;simp only[List.length_cons];omega
theorem ZmD{x:AV} :∀ {l:List AV} {p:AV},x∈cpA p l→x∈l
 |[],_,h=>h
 |y::l,p,h=>by
  unfold cpA at h
  split at h
  ·exact List.mem_cons_of_mem _ (ZmD h)
  ·rcases List.mem_cons.1 h with rfl |h
   ·exact List.mem_cons_self
   ·exact List.mem_cons_of_mem _ (ZmD h)
theorem Zxk{x:AV}{l:List AV}(h:x∈cpN l):x∈l:=by
 cases l with
 |nil=>exact h
 |cons y l=>
  rcases List.mem_cons.1 h with rfl |h
  ·exact List.mem_cons_self
  ·exact List.mem_cons_of_mem _ (ZmD h)
theorem Znb{x:AV}{c:Int}{fs:List AV}(h:x∈ZgX c fs):x∈ZcR c fs:=by
 rw[ZpA]at h
 exact ZfA (Zxk h)
theorem Zm8(c:Int)(fs:List AV):(ZgX c fs).length≤fs.length:=by
 rw[ZpA]
 have h1:=Zro (Zay (ZcR c fs))
 rw[Zcd]at h1
 have:=Zlf c fs
 omega
theorem ZIv{fs:List AV}(h:nmB fs=true):fs.length<10000∧ctB fs=true:=by
 unfold nmB at h
 simpa using h
theorem ZtN{c:Int}{fs:List AV}(h:nmB fs=true):∀x∈ZgX c fs, -400000≤Zaw x∧Zaw x≤400000:=fun x hx=>by
 obtain⟨h1,h2⟩:=ZIv h
 have:=ZkG c fs h2 x (Znb hx)
 omega
theorem ZjY{a b:Int} :∀ {fs:List AV},Zfe a b fs=0→∀f∈fs,frW a b f=0
 |[],_,f,hf=>absurd hf List.not_mem_nil
 |g::fs,h,f,hf=>by
  unfold Zfe at h
  split at h
  ·rename_i h0
   rcases List.mem_cons.1 hf with rfl |hf
   ·exact h0
   ·exact ZjY h f hf
  ·rename_i h0;exact absurd h h0
theorem ZjO{a b c:Int}{fs:List AV}(h:ZbW a b c fs=0):Zao a b=0∧ZaP b c=0∧fs.length≤40∧Zfe a b fs=0:=by
 unfold ZbW at h
 simp only[Zaq]at h
 by_cases h1:Zao a b=0
 ·by_cases h2:ZaP b c=0
  ·by_cases h3:(fs.length:Int)≤40
   ·simp[h1,h2,h3]at h
    exact⟨h1,h2,by omega,by by_cases h9:Zfe a b fs=0
                            ·exact h9
                            ·exact h h9⟩
   ·simp[h1,h2,h3,Zak]at h
  ·simp[h1,h2]at h
 ·simp[h1]at h
theorem Zz6{a b c:Int}{fs:List AV}(h:ZbW a b c fs=0):nmB fs=true:=by
 obtain⟨h1,h2,h3,h4⟩:=ZjO h
 unfold nmB
 simp only[Bool.and_eq_true,decide_eq_true_eq]
 refine⟨by omega,List.all_eq_true.mpr fun f hf=>decide_eq_true ?_⟩
 have hw:=ZjY h4 f hf
 have hrb:ZbK a b=true:=by
  unfold Zao at h1
  by_cases hb:ZbK a b=true
  ·exact hb
  ·rw[if_neg hb]at h1;cases h1
 unfold frW at hw
 rw[Zh3 hrb]at hw
 exact(ZkR hw).2.1
def BOm:List Ctr:=BOl
theorem ZA4:Zap Try.prog BOm:=ZEZ
end Go.Proofs.Ytjhdnpmojhkbjaa
/- Paths of functions, printed by the explorer (Gx). No condition. -/
namespace Go.Proofs.Ytjhdnpmojhkbjaa
set_option maxRecDepth 100000
set_option linter.unusedVariables false
def ZAU(a:Int)(b:Int)(ds:List Int):AFrame:={ fn:=30,N:=22,env:=[(0,AV.agg (Row.gen [AV.int .i64 a,AV.int .i64 b,AV.list (.ints .i64 ds)]))],todo:=[.code a30.code],defs:=[],rnd:=none,ret:=false,res:=[ARes.tmp 2] }
def ZL0(a:Int)(b:Int)(ds:List Int):List AFrame:=[(ZAU a b ds)]
theorem Zzr(a:Int)(b:Int)(ds:List Int):Zam tab 30 [AV.agg (Row.gen [AV.int .i64 a,AV.int .i64 b,AV.list (.ints .i64 ds)])]=some (ZAU a b ds):=rfl
theorem ZK2(A:Ar)(a b:Int)(ds:List Int):ZaE A tab B5 9 [true] 30 (ZL0 a b ds) []=
 some (tr [2,0,0,12,6] [decide (List.length [Zak (ZeP b) 2,Zak (A.le (A.int (A.len ds)) 40) 8,ZaF ds]≤1000000),List.all [AV.int .i64 (Zak (ZeP b) 2),AV.int .i64 (Zak (A.le (A.int (A.len ds)) 40) 8),AV.int .i64 (ZaF ds)] fun x=>AV.bx x&&Nat.beq (Zac A x) 1,decide (List.length ds≤1000000),ZeP a],
  AV.int .i64 (Zaq [Zak (ZeP b) 2,Zak (A.le (A.int (A.len ds)) 40) 8,ZaF ds]),none):=by kernel_rfl
theorem ZK7(A:Ar)(a b:Int)(ds:List Int):ZaE A tab B5 9 [false] 30 (ZL0 a b ds) []=
 some (tr [2,0,0,12,6] [decide (List.length [2,Zak (A.le (A.int (A.len ds)) 40) 8,ZaF ds]≤1000000),List.all [AV.int .i64 2,AV.int .i64 (Zak (A.le (A.int (A.len ds)) 40) 8),AV.int .i64 (ZaF ds)] fun x=>AV.bx x&&Nat.beq (Zac A x) 1,decide (List.length ds≤1000000),!ZeP a],
  AV.int .i64 (Zaq [2,Zak (A.le (A.int (A.len ds)) 40) 8,ZaF ds]),none):=by kernel_rfl
def ZDI(a:Int)(b:Int)(ds:List Int):AFrame:={ fn:=32,N:=20,env:=[(0,AV.agg (Row.gen [AV.int .i64 a,AV.int .i64 b,AV.list (.ints .i64 ds)]))],todo:=[.code a32.code],defs:=[],rnd:=none,ret:=false,res:=[ARes.tmp 2] }
def ZHk(a:Int)(b:Int)(ds:List Int):List AFrame:=[(ZDI a b ds)]
theorem ZwJ(a:Int)(b:Int)(ds:List Int):Zam tab 32 [AV.agg (Row.gen [AV.int .i64 a,AV.int .i64 b,AV.list (.ints .i64 ds)])]=some (ZDI a b ds):=rfl
theorem ZLb(A:Ar)(a b:Int)(ds:List Int):ZaE A tab B5 26 [true,true,true,true,true,true] 32 (ZHk a b ds) []=
 some (tr [12,7] [A.not (decide (0≤a∧a≤255))],
  AV.int .i64 2,none):=by kernel_rfl
theorem ZKR(A:Ar)(a b:Int)(ds:List Int):ZaE A tab B5 26 [false,false,false,false,false,true] 32 (ZHk a b ds) []=
 some (tr [2,9,7] [A.not (decide (0≤b∧b≤255)),!A.not (decide (0≤a∧a≤255))],
  AV.int .i64 2,none):=by kernel_rfl
theorem ZHZ(A:Ar)(a b:Int)(ds:List Int):ZaE A tab B5 36 [false,false,false,false,false,false,true] 32 (ZHk a b ds) []=
 some (tr [2,4,9,7] [A.lt 40 (A.int (A.len ds)),!A.not (decide (0≤b∧b≤255)),!A.not (decide (0≤a∧a≤255))],
  AV.int .i64 8,none):=by kernel_rfl
theorem ZJm(A:Ar)(a b:Int)(ds:List Int):ZaE A tab B5 40 [false,false,false,false,false,false,false] 32 (ZHk a b ds) []=
 some (tr [2,2,4,9,7] [decide (List.length ds≤1000000),!A.lt 40 (A.int (A.len ds)),!A.not (decide (0≤b∧b≤255)),!A.not (decide (0≤a∧a≤255))],
  AV.int .i64 (ZaF ds),none):=by kernel_rfl
def ZCU(a:Int)(b:Int)(ds:List Int):AFrame:={ fn:=31,N:=8,env:=[(0,AV.agg (Row.gen [AV.int .i64 a,AV.int .i64 b,AV.list (.ints .i64 ds)]))],todo:=[.code a31.code],defs:=[],rnd:=none,ret:=false,res:=[ARes.cell 2 true 3] }
def ZN0(a:Int)(b:Int)(ds:List Int):List AFrame:=[(ZCU a b ds)]
theorem Zzp(a:Int)(b:Int)(ds:List Int):Zam tab 31 [AV.agg (Row.gen [AV.int .i64 a,AV.int .i64 b,AV.list (.ints .i64 ds)])]=some (ZCU a b ds):=rfl
theorem ZKk(A:Ar)(a b:Int)(ds:List Int):ZaE A tab B5 19 [] 31 (ZN0 a b ds) []=
 some (tr [5,4] [decide (List.length ds≤4294967296)],
  AV.agg (Row.gen [.int .i64 a, .int .i64 b, .list (.ints .i64 ds)]),none):=by kernel_rfl
def ZDi(ps:List AV):AFrame:={ fn:=29,N:=20,env:=[(0,AV.list (Row.big (Sh.agg [Sh.int .i64,Sh.int .i64,Sh.ints .i64]) ps))],todo:=[.code a29.code],defs:=[],rnd:=none,ret:=false,res:=[ARes.tmp 2] }
def ZLL(ps:List AV):List AFrame:=[(ZDi ps)]
theorem ZAg(ps:List AV):Zam tab 29 [AV.list (Row.big (Sh.agg [Sh.int .i64,Sh.int .i64,Sh.ints .i64]) ps)]=some (ZDi ps):=rfl
def Zeg(ps:List AV)(n0:Int):List AFrame:=[{ fn:=29,N:=20,env:=[(0,AV.list (Row.big (Sh.agg [Sh.int .i64,Sh.int .i64,Sh.ints .i64]) ps)),(3,AV.int .i64 n0)],todo:=.code (ACode.gh [] ZFM)::ZJY,defs:=[],rnd:=none,ret:=false,res:=[ARes.tmp 2] }]
def Zdu(ps:List AV)(n0:Int):Zaa:=[]
abbrev Zje(ps:List AV)(n0:Int):List AFrame×Zaa:=(Zeg ps n0,Zdu ps n0)
theorem ZIQ(A:Ar)(ps:List AV):ZaE A tab B5 17 [true] 29 (ZLL ps) []=
 some (tr [2,4] [A.lt 22 (A.int (A.lenA ps))],
  AV.bool false,none):=by kernel_rfl
theorem ZK4(A:Ar)(ps:List AV):Zad A tab B5 21 [false] (ZLL ps) []=
 some (tr [1,4] [!A.lt 22 (A.int (A.lenA ps))],
  Zje (ps) (0)):=by kernel_rfl
theorem ZHK(A:Ar)(ps:List AV)(n0:Int):ZaE A tab B5 30 [true,true] 29 (Zeg ps n0) (Zdu ps n0)=
 some (tr [2,4,2,4] [A.lt 42 (A.int (A.len ((A.nthA ps (A.nat n0)).cellAt 2).toIs)),Zab (Zab (A.le 0 n0) (Nat.blt (A.nat n0) (A.lenA ps))) true,A.lt n0 (A.int (A.lenA ps))],
  AV.bool false,none):=by kernel_rfl
theorem ZLf(A:Ar)(ps:List AV)(n0:Int):Zad A tab B5 34 [true,false] (Zeg ps n0) (Zdu ps n0)=
 some (tr [1,1,4,2,4] [A.inR .i64 (A.add n0 1),!A.lt 42 (A.int (A.len ((A.nthA ps (A.nat n0)).cellAt 2).toIs)),Zab (Zab (A.le 0 n0) (Nat.blt (A.nat n0) (A.lenA ps))) true,A.lt n0 (A.int (A.lenA ps))],
  Zje (ps) (A.add n0 1)):=by kernel_rfl
theorem ZKm(A:Ar)(ps:List AV)(n0:Int):ZaE A tab B5 16 [false] 29 (Zeg ps n0) (Zdu ps n0)=
 some (tr [2,4] [!A.lt n0 (A.int (A.lenA ps))],
  AV.bool true,none):=by kernel_rfl
end Go.Proofs.Ytjhdnpmojhkbjaa
/- Contracts as a list. No condition. -/
namespace Go.Proofs.Ytjhdnpmojhkbjaa
def pkE(a b:Int)(ds:List Int):Int:=if ZeP a=true∧ZeP b=true then(if 40<ds.length then 8 else ZaF ds)else 2
theorem Zta(a b:Int)(ds:List Int)(h:ds.length≤1000000):ZaK Try.prog 30 [.agg (.gen [.int .i64 a, .int .i64 b, .list (.ints .i64 ds)])] (.int .i64 (pkE a b ds)) none:=
 start (Zzr a b ds) fun C hC=>by
  by_cases h1:ZeP a=true
  ·refine fin hC Zel (ZK2 std a b ds) (by simp[h1,h,AV.bx,Zac]) ?_ rfl
   by_cases h2:ZeP b=true
   ·rw[pkE,if_pos ⟨h1,h2⟩,h2]
    by_cases h3:40<ds.length
    ·have:std.le (std.int (std.len ds)) 40=false:=by simp;omega
     rw[this,if_pos h3];simp[Zaq]
    ·have:std.le (std.int (std.len ds)) 40=true:=by simp;omega
     rw[this,if_neg h3];simp[Zaq];exact fun h=>h.symm
   ·rw[pkE,if_neg (fun h=>h2 h.2)]
    have:ZeP b=false:=by simpa using h2
    rw[this];simp[Zaq]
  ·refine fin hC Zel (ZK7 std a b ds) (by simp[h,AV.bx,Zac];simpa using h1) ?_ rfl
   rw[pkE,if_neg (fun h=>h1 h.1)];simp[Zaq]
theorem Zte(a b:Int)(ds:List Int)(h:ds.length≤1000000):ZaK Try.prog 32 [.agg (.gen [.int .i64 a, .int .i64 b, .list (.ints .i64 ds)])] (.int .i64 (pkE a b ds)) none:=
 start (ZwJ a b ds) fun C hC=>by
  by_cases h1:0≤a∧a≤255
  ·by_cases h2:0≤b∧b≤255
   ·rw[pkE,if_pos ⟨decide_eq_true h1,decide_eq_true h2⟩]
    by_cases h3:40<ds.length
    ·exact fin hC Zel (ZHZ std a b ds) (by simp[h1,h2];omega) (by rw[if_pos h3]) rfl
    ·exact fin hC Zel (ZJm std a b ds) (by simp[h1,h2,h];omega) (by rw[if_neg h3]) rfl
   ·rw[pkE,if_neg (fun h=>h2 (of_decide_eq_true h.2))]
    exact fin hC Zel (ZKR std a b ds) (by simp only[decide_eq_false h2];simp[h1]) rfl rfl
  ·rw[pkE,if_neg (fun h=>h1 (of_decide_eq_true h.1))]
   exact fin hC Zel (ZLb std a b ds) (by simp only[decide_eq_false h1];simp) rfl rfl
theorem Zs7(a b:Int)(ds:List Int)(h:ds.length≤4294967296):ZaK Try.prog 31 [.agg (.gen [.int .i64 a, .int .i64 b, .list (.ints .i64 ds)])] (.agg (.gen [.int .i64 a, .int .i64 b, .list (.ints .i64 ds)])) none:=
 start (Zzp a b ds) fun C hC=>fin hC Zel (ZKk std a b ds) (by simp[h]) rfl rfl
def kI(p:AV):Int:=(p.cellAt 0).toI
def kC(p:AV):Int:=(p.cellAt 1).toI
def kD(p:AV):List Int:=(p.cellAt 2).toIs
def ZAD:List AV→Bool
 |[]=>true
 |p::ps=>decide ((kD p).length≤42)&&ZAD ps
def Zcg(ps:List AV):Bool:=decide (ps.length≤22)&&ZAD ps
theorem l29{C:Ctx}(hC:C.P=Try.prog)(ps:List AV)(hlen:ps.length≤1000000):∀(d i:Nat),ps.length-i=d→i≤ps.length→
 Ev C (Zeg ps i) (Zdu ps i) (ZeX 29 (.bool (ZAD (ps.drop i))) none):=by
 intro d
 induction d with
 |zero=>
  intro i hd hi
  exact fin hC Zel (ZKm std ps i) (by simp;omega) (by rw[List.drop_of_length_le (by omega)];rfl) rfl
 |succ d ih=>
  intro i hd hi
  have hlt:i<ps.length:=by omega
  have e1:std.nthA ps (std.nat (i:Int))=ps[i]:=by simp[hlt]
  have g1:(ps[i].cellAt 2).toIs=kD ps[i]:=rfl
  rw[List.drop_eq_getElem_cons hlt,ZAD]
  by_cases h:(kD ps[i]).length≤42
  ·rw[decide_eq_true h,Bool.true_and]
   exact go hC Zel (ZLf std ps i) (by simp only[e1,g1];simp[hlt];omega) (ih (i+1) (by omega) (by omega))
  ·rw[decide_eq_false h,Bool.false_and]
   exact fin hC Zel (ZHK std ps i) (by simp only[e1,g1];simp[hlt];omega) rfl rfl
theorem Zsn(ps:List AV):ZaK Try.prog 29 [.list (.big (.agg [.int .i64, .int .i64, .ints .i64]) ps)] (.bool (Zcg ps)) none:=
 start (ZAg ps) fun C hC=>by
  by_cases h:ps.length≤22
  ·rw[Zcg,decide_eq_true h,Bool.true_and]
   exact go hC Zel (ZK4 std ps) (by simp;omega) (l29 hC ps (by omega) ps.length 0 (by omega) (by omega))
  ·rw[Zcg,decide_eq_false h,Bool.false_and]
   exact fin hC Zel (ZIQ std ps) (by simp;omega) rfl rfl
def k30:Ctr:=⟨30,0,fun _ a=>match a with |[.agg (.gen [.int .i64 a, .int .i64 b, .list (.ints .i64 ds)])]=>some (decide (ds.length≤1000000), .int .i64 (pkE a b ds),none) |_=>none⟩
theorem ZCa:k30.OK Try.prog:=fun pa args r fr h=>by
 simp only[k30]at h
 split at h
 ·simp only[Option.some.injEq,Prod.mk.injEq,decide_eq_true_eq]at h
  obtain⟨h0,rfl,rfl⟩:=h
  exact Zta _ _ _ h0
 ·cases h
def k32:Ctr:=⟨32,0,fun _ a=>match a with |[.agg (.gen [.int .i64 a, .int .i64 b, .list (.ints .i64 ds)])]=>some (decide (ds.length≤1000000), .int .i64 (pkE a b ds),none) |_=>none⟩
theorem ZGs:k32.OK Try.prog:=fun pa args r fr h=>by
 simp only[k32]at h
 split at h
 ·simp only[Option.some.injEq,Prod.mk.injEq,decide_eq_true_eq]at h
  obtain⟨h0,rfl,rfl⟩:=h
  exact Zte _ _ _ h0
 ·cases h
def k31:Ctr:=⟨31,0,fun _ a=>match a with |[.agg (.gen [.int .i64 a, .int .i64 b, .list (.ints .i64 ds)])]=>some (decide (ds.length≤4294967296), .agg (.gen [.int .i64 a, .int .i64 b, .list (.ints .i64 ds)]),none) |_=>none⟩
theorem ZCS:k31.OK Try.prog:=fun pa args r fr h=>by
 simp only[k31]at h
 split at h
 ·simp only[Option.some.injEq,Prod.mk.injEq,decide_eq_true_eq]at h
  obtain⟨h0,rfl,rfl⟩:=h
  exact Zs7 _ _ _ h0
 ·cases h
def k29:Ctr:=⟨29,0,fun _ a=>match a with |[.list (.big (.agg [.int .i64, .int .i64, .ints .i64]) ps)]=>some (true, .bool (Zcg ps),none) |_=>none⟩
theorem Zuo:k29.OK Try.prog:=fun pa args r fr h=>by
 simp only[k29]at h
 split at h
 ·cases h
  exact Zsn _
 ·cases h
def BD1:List Ctr:=[k30,k32,k31,k29]++B5
theorem Zbo:Zap Try.prog BD1:=⟨ZCa,⟨ZGs,⟨ZCS,⟨Zuo,Zel⟩⟩⟩⟩
end Go.Proofs.Ytjhdnpmojhkbjaa
/- Paths of functions, printed by the explorer (Gx). No condition. -/
namespace Go.Proofs.Ytjhdnpmojhkbjaa
set_option maxRecDepth 100000
set_option linter.unusedVariables false
def Zuu(ps:List AV):AFrame:={ fn:=129,N:=21,env:=[(0,AV.list (Row.big (Sh.agg [Sh.int .i64,Sh.int .i64,Sh.ints .i64]) ps)),(1,AV.fn 30 [])],todo:=[.code a129.code],defs:=[],rnd:=none,ret:=false,res:=[ARes.tmp 4] }
def ZJA(ps:List AV):List AFrame:=[(Zuu ps)]
theorem ZtE(ps:List AV):Zam tab 129 [AV.list (Row.big (Sh.agg [Sh.int .i64,Sh.int .i64,Sh.ints .i64]) ps),AV.fn 30 []]=some (Zuu ps):=rfl
def ZcI(ps:List AV)(n0 n1:Int):List AFrame:=[{ fn:=129,N:=21,env:=[(1,AV.fn 30 []),(8,AV.list (Row.big (Sh.agg [Sh.int .i64,Sh.int .i64,Sh.ints .i64]) ps)),(9,AV.int .i64 n0),(10,AV.int .i64 n1)],todo:=.code (ACode.gh [] Zvn)::ZBY,defs:=[],rnd:=none,ret:=false,res:=[ARes.tmp 4] }]
def Zb7(ps:List AV)(n0:Int)(n1:Int):Zaa:=[]
abbrev ZgD(ps:List AV)(n0:Int)(n1:Int):List AFrame×Zaa:=(ZcI ps n0 n1,Zb7 ps n0 n1)
theorem ZDl(A:Ar)(ps:List AV):Zad A tab BD1 14 [] (ZJA ps) []=
 some (tr [4] [],
  ZgD (ps) (A.int (A.lenA ps)) (0)):=by kernel_rfl
theorem ZGr(A:Ar)(ps:List AV)(n0 n1:Int):ZaE A tab BD1 36 [true,true] 129 (ZcI ps n0 n1) (Zb7 ps n0 n1)=
 some (tr [3,3,5,0,1] [A.not (A.eq (pkE ((A.nthA ps (A.nat n1)).cellAt 0).toI ((A.nthA ps (A.nat n1)).cellAt 1).toI ((A.nthA ps (A.nat n1)).cellAt 2).toIs) 0),decide (List.length ((A.nthA ps (A.nat n1)).cellAt 2).toIs≤1000000),Zab (Zab (A.le 0 n1) (Nat.blt (A.nat n1) (A.lenA ps))) true,A.lt n1 n0],
  AV.int .i64 (pkE ((A.nthA ps (A.nat n1)).cellAt 0).toI ((A.nthA ps (A.nat n1)).cellAt 1).toI ((A.nthA ps (A.nat n1)).cellAt 2).toIs),none):=by kernel_rfl
theorem ZBy(A:Ar)(ps:List AV)(n0 n1:Int):Zad A tab BD1 38 [true,false] (ZcI ps n0 n1) (Zb7 ps n0 n1)=
 some (tr [1,0,3,5,0,1] [A.inR .i64 (A.add n1 1),!A.not (A.eq (pkE ((A.nthA ps (A.nat n1)).cellAt 0).toI ((A.nthA ps (A.nat n1)).cellAt 1).toI ((A.nthA ps (A.nat n1)).cellAt 2).toIs) 0),decide (List.length ((A.nthA ps (A.nat n1)).cellAt 2).toIs≤1000000),Zab (Zab (A.le 0 n1) (Nat.blt (A.nat n1) (A.lenA ps))) true,A.lt n1 n0],
  ZgD (ps) (n0) (A.add n1 1)):=by kernel_rfl
theorem ZC0(A:Ar)(ps:List AV)(n0 n1:Int):ZaE A tab BD1 13 [false] 129 (ZcI ps n0 n1) (Zb7 ps n0 n1)=
 some (tr [2,1] [!A.lt n1 n0],
  AV.int .i64 0,none):=by kernel_rfl
def ZDP(ps:List AV):AFrame:={ fn:=36,N:=22,env:=[(0,AV.list (Row.big (Sh.agg [Sh.int .i64,Sh.int .i64,Sh.ints .i64]) ps))],todo:=[.code a36.code],defs:=[],rnd:=none,ret:=false,res:=[ARes.tmp 2] }
def ZLF(ps:List AV):List AFrame:=[(ZDP ps)]
theorem Zzz(ps:List AV):Zam tab 36 [AV.list (Row.big (Sh.agg [Sh.int .i64,Sh.int .i64,Sh.ints .i64]) ps)]=some (ZDP ps):=rfl
def Zee(ps:List AV)(n0:Int):List AFrame:=[{ fn:=36,N:=22,env:=[(0,AV.list (Row.big (Sh.agg [Sh.int .i64,Sh.int .i64,Sh.ints .i64]) ps)),(3,AV.int .i64 n0)],todo:=.code (ACode.gh [] ZF8)::ZJ7,defs:=[],rnd:=none,ret:=false,res:=[ARes.tmp 2] }]
def Zdp(ps:List AV)(n0:Int):Zaa:=[]
abbrev Zir(ps:List AV)(n0:Int):List AFrame×Zaa:=(Zee ps n0,Zdp ps n0)
theorem ZHQ(A:Ar)(ps:List AV):ZaE A tab BD1 17 [true] 36 (ZLF ps) []=
 some (tr [2,4] [A.lt 20 (A.int (A.lenA ps))],
  AV.int .i64 8,none):=by kernel_rfl
theorem ZId(A:Ar)(ps:List AV):Zad A tab BD1 21 [false] (ZLF ps) []=
 some (tr [1,4] [!A.lt 20 (A.int (A.lenA ps))],
  Zir (ps) (0)):=by kernel_rfl
theorem ZKC(A:Ar)(ps:List AV)(n0:Int):ZaE A tab BD1 34 [true,true] 36 (Zee ps n0) (Zdp ps n0)=
 some (tr [3,3,1,2,4] [A.not (A.eq (pkE ((A.nthA ps (A.nat n0)).cellAt 0).toI ((A.nthA ps (A.nat n0)).cellAt 1).toI ((A.nthA ps (A.nat n0)).cellAt 2).toIs) 0),decide (List.length ((A.nthA ps (A.nat n0)).cellAt 2).toIs≤1000000),Zab (Zab (A.le 0 n0) (Nat.blt (A.nat n0) (A.lenA ps))) true,A.lt n0 (A.int (A.lenA ps))],
  AV.int .i64 (pkE ((A.nthA ps (A.nat n0)).cellAt 0).toI ((A.nthA ps (A.nat n0)).cellAt 1).toI ((A.nthA ps (A.nat n0)).cellAt 2).toIs),none):=by kernel_rfl
theorem ZHX(A:Ar)(ps:List AV)(n0:Int):Zad A tab BD1 37 [true,false] (Zee ps n0) (Zdp ps n0)=
 some (tr [1,1,3,1,2,4] [A.inR .i64 (A.add n0 1),!A.not (A.eq (pkE ((A.nthA ps (A.nat n0)).cellAt 0).toI ((A.nthA ps (A.nat n0)).cellAt 1).toI ((A.nthA ps (A.nat n0)).cellAt 2).toIs) 0),decide (List.length ((A.nthA ps (A.nat n0)).cellAt 2).toIs≤1000000),Zab (Zab (A.le 0 n0) (Nat.blt (A.nat n0) (A.lenA ps))) true,A.lt n0 (A.int (A.lenA ps))],
  Zir (ps) (A.add n0 1)):=by kernel_rfl
theorem ZJK(A:Ar)(ps:List AV)(n0:Int):ZaE A tab BD1 16 [false] 36 (Zee ps n0) (Zdp ps n0)=
 some (tr [2,4] [!A.lt n0 (A.int (A.lenA ps))],
  AV.int .i64 0,none):=by kernel_rfl
def ZFG(ps:List AV):AFrame:={ fn:=34,N:=20,env:=[(0,AV.list (Row.big (Sh.agg [Sh.int .i64,Sh.int .i64,Sh.ints .i64]) ps))],todo:=[.code a34.code],defs:=[],rnd:=none,ret:=false,res:=[ARes.tmp 2] }
def ZNa(ps:List AV):List AFrame:=[(ZFG ps)]
theorem ZpO(ps:List AV):Zam tab 34 [AV.list (Row.big (Sh.agg [Sh.int .i64,Sh.int .i64,Sh.ints .i64]) ps)]=some (ZFG ps):=rfl
def ZhJ(ps:List AV):List AFrame:=[{ fn:=34,N:=20,env:=[(0,AV.list (Row.big (Sh.agg [Sh.int .i64,Sh.int .i64,Sh.ints .i64]) ps)),(3,AV.nils),(4,AV.int .i64 0)],todo:=.code (ACode.gh [] ZxW)::ZDM,defs:=[],rnd:=none,ret:=false,res:=[ARes.tmp 2] }]
def ZfZ(ps:List AV):Zaa:=[]
abbrev Zoe(ps:List AV):List AFrame×Zaa:=(ZhJ ps,ZfZ ps)
def Zfi(ps:List AV)(n0:Int)(x1:List AV):List AFrame:=[{ fn:=34,N:=20,env:=[(0,AV.list (Row.big (Sh.agg [Sh.int .i64,Sh.int .i64,Sh.ints .i64]) ps)),(3,AV.row 34019 0),(4,AV.int .i64 n0)],todo:=.code (ACode.gh [] ZxW)::ZDM,defs:=[],rnd:=none,ret:=false,res:=[ARes.tmp 2] }]
def ZeM(ps:List AV)(n0:Int)(x1:List AV):Zaa:=[(34019,{ base:=0,blks:=[Blk.row 57 3 (Row.big (Sh.agg [Sh.int .i64,Sh.int .i64,Sh.ints .i64]) x1)] })]
abbrev Zjg(ps:List AV)(n0:Int)(x1:List AV):List AFrame×Zaa:=(Zfi ps n0 x1,ZeM ps n0 x1)
theorem ZF6(A:Ar)(ps:List AV):Zad A tab BD1 16 [] (ZNa ps) []=
 some (tr [3] [],
  Zoe (ps)):=by kernel_rfl
theorem ZKj(A:Ar)(ps:List AV):Zad A tab BD1 32 [true] (ZhJ ps) (ZfZ ps)=
 some (tr [1,2,0,0,1,3,4] [A.inR .i64 (A.add 0 1),Zab (Nat.ble (A.lenA [AV.agg (Row.gen [.int .i64 ((A.nthA ps (A.nat 0)).cellAt 0).toI, .int .i64 ((A.nthA ps (A.nat 0)).cellAt 1).toI, .list (.ints .i64 ((A.nthA ps (A.nat 0)).cellAt 2).toIs)])]) 4294967296) (Nat.blt 0 (A.lenA [AV.agg (Row.gen [.int .i64 ((A.nthA ps (A.nat 0)).cellAt 0).toI, .int .i64 ((A.nthA ps (A.nat 0)).cellAt 1).toI, .list (.ints .i64 ((A.nthA ps (A.nat 0)).cellAt 2).toIs)])])),List.all [AV.agg (Row.gen [.int .i64 ((A.nthA ps (A.nat 0)).cellAt 0).toI, .int .i64 ((A.nthA ps (A.nat 0)).cellAt 1).toI, .list (.ints .i64 ((A.nthA ps (A.nat 0)).cellAt 2).toIs)])] fun x=>AV.bx x&&Nat.beq (Zac A x) 3,decide (List.length ((A.nthA ps (A.nat 0)).cellAt 2).toIs≤4294967296),Zab (Zab (A.le 0 0) (Nat.blt (A.nat 0) (A.lenA ps))) true,A.lt 0 (A.int (A.lenA ps))],
  Zjg (ps) (A.add 0 1) ([AV.agg (Row.gen [.int .i64 ((A.nthA ps (A.nat 0)).cellAt 0).toI, .int .i64 ((A.nthA ps (A.nat 0)).cellAt 1).toI, .list (.ints .i64 ((A.nthA ps (A.nat 0)).cellAt 2).toIs)])])):=by kernel_rfl
theorem ZHB(A:Ar)(ps:List AV):ZaE A tab BD1 17 [false] 34 (ZhJ ps) (ZfZ ps)=
 some (tr [3,4] [!A.lt 0 (A.int (A.lenA ps))],
  AV.nils,none):=by kernel_rfl
theorem ZJx(A:Ar)(ps:List AV)(n0:Int)(x1:List AV):Zad A tab BD1 32 [true] (Zfi ps n0 x1) (ZeM ps n0 x1)=
 some (tr [1,2,0,0,1,3,4] [A.inR .i64 (A.add n0 1),Nat.ble (A.lenA x1+A.lenA [AV.agg (Row.gen [.int .i64 ((A.nthA ps (A.nat n0)).cellAt 0).toI, .int .i64 ((A.nthA ps (A.nat n0)).cellAt 1).toI, .list (.ints .i64 ((A.nthA ps (A.nat n0)).cellAt 2).toIs)])]) 4294967296,List.all [AV.agg (Row.gen [.int .i64 ((A.nthA ps (A.nat n0)).cellAt 0).toI, .int .i64 ((A.nthA ps (A.nat n0)).cellAt 1).toI, .list (.ints .i64 ((A.nthA ps (A.nat n0)).cellAt 2).toIs)])] fun x=>AV.bx x&&Nat.beq (Zac A x) 3,decide (List.length ((A.nthA ps (A.nat n0)).cellAt 2).toIs≤4294967296),Zab (Zab (A.le 0 n0) (Nat.blt (A.nat n0) (A.lenA ps))) true,A.lt n0 (A.int (A.lenA ps))],
  Zjg (ps) (A.add n0 1) (A.appA x1 [AV.agg (Row.gen [.int .i64 ((A.nthA ps (A.nat n0)).cellAt 0).toI, .int .i64 ((A.nthA ps (A.nat n0)).cellAt 1).toI, .list (.ints .i64 ((A.nthA ps (A.nat n0)).cellAt 2).toIs)])])):=by kernel_rfl
theorem ZIh(A:Ar)(ps:List AV)(n0:Int)(x1:List AV):ZaE A tab BD1 17 [false] 34 (Zfi ps n0 x1) (ZeM ps n0 x1)=
 some (tr [3,4] [!A.lt n0 (A.int (A.lenA ps))],
  AV.row 0 0,some { e:=57,sz:=3,r:=Row.big (.agg [.int .i64, .int .i64, .ints .i64]) x1 }):=by kernel_rfl
def ZGi(ps:List AV):AFrame:={ fn:=97,N:=34,env:=[(0,AV.list (Row.big (Sh.agg [Sh.int .i64,Sh.int .i64,Sh.ints .i64]) ps))],todo:=[.code a97.code],defs:=[],rnd:=none,ret:=false,res:=[ARes.tmp 2,ARes.tmp 3] }
def ZL3(ps:List AV):List AFrame:=[(ZGi ps)]
theorem Zrs(ps:List AV):Zam tab 97 [AV.list (Row.big (Sh.agg [Sh.int .i64,Sh.int .i64,Sh.ints .i64]) ps)]=some (ZGi ps):=rfl
def ZhN(ps:List AV)(n0:Int):List AFrame:=[{ fn:=97,N:=34,env:=[(2,AV.nils),(3,AV.nils),(6,AV.list (Row.big (Sh.agg [Sh.int .i64,Sh.int .i64,Sh.ints .i64]) ps)),(7,AV.int .i64 n0),(8,AV.int .i64 0)],todo:=.code (ACode.gh [] ZyY)::ZFI,defs:=[],rnd:=none,ret:=false,res:=[ARes.tmp 2,ARes.tmp 3] }]
def ZfV(ps:List AV)(n0:Int):Zaa:=[]
abbrev Zn2(ps:List AV)(n0:Int):List AFrame×Zaa:=(ZhN ps n0,ZfV ps n0)
def Zfx(ps:List AV)(n0 n1:Int)(l2 l3:List Int):List AFrame:=[{ fn:=97,N:=34,env:=[(2,AV.row 97031 0),(3,AV.row 97017 0),(6,AV.list (Row.big (Sh.agg [Sh.int .i64,Sh.int .i64,Sh.ints .i64]) ps)),(7,AV.int .i64 n0),(8,AV.int .i64 n1)],todo:=.code (ACode.gh [] ZyY)::ZFI,defs:=[],rnd:=none,ret:=false,res:=[ARes.tmp 2,ARes.tmp 3] }]
def Zet(ps:List AV)(n0:Int)(n1:Int)(l2:List Int)(l3:List Int):Zaa:=[(97017,{ base:=0,blks:=[Blk.row 3 1 (.ints .i64 l2)] }),(97031,{ base:=0,blks:=[Blk.row 3 1 (.ints .i64 l3)] })]
abbrev ZiE(ps:List AV)(n0:Int)(n1:Int)(l2:List Int)(l3:List Int):List AFrame×Zaa:=(Zfx ps n0 n1 l2 l3,Zet ps n0 n1 l2 l3)
theorem ZDU(A:Ar)(ps:List AV):Zad A tab BD1 15 [] (ZL3 ps) []=
 some (tr [5] [],
  Zn2 (ps) (A.int (A.lenA ps))):=by kernel_rfl
theorem ZIV(A:Ar)(ps:List AV)(n0:Int):Zad A tab BD1 55 [true] (ZhN ps n0) (ZfV ps n0)=
 some (tr [1,1,4,0,9,0,6,0,1] [A.inR .i64 (A.add 0 1),Nat.ble (A.len [AV.toI (AV.cellAt (A.nthA ps (A.nat 0)) 0),AV.toI (AV.cellAt (A.nthA ps (A.nat 0)) 1),A.int (A.len ((A.nthA ps (A.nat 0)).cellAt 2).toIs)]+A.len ((A.nthA ps (A.nat 0)).cellAt 2).toIs) 4294967296,Zab (Nat.ble (A.len [AV.toI (AV.cellAt (A.nthA ps (A.nat 0)) 0),AV.toI (AV.cellAt (A.nthA ps (A.nat 0)) 1),A.int (A.len ((A.nthA ps (A.nat 0)).cellAt 2).toIs)]) 4294967296) (Nat.blt 0 (A.len [AV.toI (AV.cellAt (A.nthA ps (A.nat 0)) 0),AV.toI (AV.cellAt (A.nthA ps (A.nat 0)) 1),A.int (A.len ((A.nthA ps (A.nat 0)).cellAt 2).toIs)])),List.all [AV.int .i64 ((A.nthA ps (A.nat 0)).cellAt 0).toI,AV.int .i64 ((A.nthA ps (A.nat 0)).cellAt 1).toI,AV.int .i64 (A.int (A.len ((A.nthA ps (A.nat 0)).cellAt 2).toIs))] fun x=>AV.bx x&&Nat.beq (Zac A x) 1,Zab (Nat.ble (A.len [A.int 0]) 4294967296) (Nat.blt 0 (A.len [A.int 0])),List.all [AV.int .i64 (A.int 0)] fun x=>AV.bx x&&Nat.beq (Zac A x) 1,Zab (Zab (A.le 0 0) (Nat.blt (A.nat 0) (A.lenA ps))) true,A.lt 0 n0],
  ZiE (ps) (n0) (A.add 0 1) ([A.int 0]) (A.app [AV.toI (AV.cellAt (A.nthA ps (A.nat 0)) 0),AV.toI (AV.cellAt (A.nthA ps (A.nat 0)) 1),A.int (A.len ((A.nthA ps (A.nat 0)).cellAt 2).toIs)] ((A.nthA ps (A.nat 0)).cellAt 2).toIs)):=by kernel_rfl
theorem ZIO(A:Ar)(ps:List AV)(n0:Int):ZaE A tab BD1 16 [false] 97 (ZhN ps n0) (ZfV ps n0)=
 some (tr [5,1] [!A.lt 0 n0],
  AV.tup [AV.nils,AV.nils],none):=by kernel_rfl
theorem ZIc(A:Ar)(ps:List AV)(n0 n1:Int)(l2 l3:List Int):Zad A tab BD1 55 [true] (Zfx ps n0 n1 l2 l3) (Zet ps n0 n1 l2 l3)=
 some (tr [1,1,4,0,9,0,6,0,1] [A.inR .i64 (A.add n1 1),Nat.ble (A.len (A.app l3 [AV.toI (AV.cellAt (A.nthA ps (A.nat n1)) 0),AV.toI (AV.cellAt (A.nthA ps (A.nat n1)) 1),A.int (A.len ((A.nthA ps (A.nat n1)).cellAt 2).toIs)])+A.len ((A.nthA ps (A.nat n1)).cellAt 2).toIs) 4294967296,Nat.ble (A.len l3+A.len [AV.toI (AV.cellAt (A.nthA ps (A.nat n1)) 0),AV.toI (AV.cellAt (A.nthA ps (A.nat n1)) 1),A.int (A.len ((A.nthA ps (A.nat n1)).cellAt 2).toIs)]) 4294967296,List.all [AV.int .i64 ((A.nthA ps (A.nat n1)).cellAt 0).toI,AV.int .i64 ((A.nthA ps (A.nat n1)).cellAt 1).toI,AV.int .i64 (A.int (A.len ((A.nthA ps (A.nat n1)).cellAt 2).toIs))] fun x=>AV.bx x&&Nat.beq (Zac A x) 1,Nat.ble (A.len l2+A.len [A.int (A.len l3)]) 4294967296,List.all [AV.int .i64 (A.int (A.len l3))] fun x=>AV.bx x&&Nat.beq (Zac A x) 1,Zab (Zab (A.le 0 n1) (Nat.blt (A.nat n1) (A.lenA ps))) true,A.lt n1 n0],
  ZiE (ps) (n0) (A.add n1 1) (A.app l2 [A.int (A.len l3)]) (A.app (A.app l3 [AV.toI (AV.cellAt (A.nthA ps (A.nat n1)) 0),AV.toI (AV.cellAt (A.nthA ps (A.nat n1)) 1),A.int (A.len ((A.nthA ps (A.nat n1)).cellAt 2).toIs)]) ((A.nthA ps (A.nat n1)).cellAt 2).toIs)):=by kernel_rfl
theorem ZJD(A:Ar)(ps:List AV)(n0 n1:Int)(l2 l3:List Int):ZaE A tab BD1 16 [false] 97 (Zfx ps n0 n1 l2 l3) (Zet ps n0 n1 l2 l3)=
 some (tr [5,1] [!A.lt n1 n0],
  AV.tup [AV.list (.ints .i64 l3),AV.list (.ints .i64 l2)],none):=by kernel_rfl
end Go.Proofs.Ytjhdnpmojhkbjaa
