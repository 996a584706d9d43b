/- The stable sort. No condition. -/
import Derived.Test.YtjhdnpmojhkbjaaMe
import Derived.KernelRfl
namespace Go.Proofs.Ytjhdnpmojhkbjaa
section
variable {C:Ctx}(hC:C.P=Try.prog)(xs:List AV)(n:Nat)(hL:n<900000)
include hC hL
theorem ZuP(w:Nat)(hw0:20≤w)(hw1:w<n)
 (hq:∀ys:List AV,ys.length=n→ZaK ys=true→Zax ys=Zax xs→Zwt (2*w) ys n→Ev C (Zb4 n [] ((w:Int)*2)) (ZbH n ys ((w:Int)*2)) (Zh1 137 140 5 (.big shN (Zax xs)) (.tup []))):
 ∀(d q a:Nat) (ys:List AV),a=q*(2*w)→n-a≤d→a≤n→ys.length=n→ZaK ys=true→Zax ys=Zax xs→Zwt (2*w) ys a→ZJI w ys a→
  Ev C (ZcT n w ((a:Int)+2*w) a []) (Zco n w ((a:Int)+2*w) a ys) (Zh1 137 140 5 (.big shN (Zax xs)) (.tup [])):=by
 intro d
 induction d with
 |zero=>
  intro q a ys ha hd h1 h2 h3 h4 h5 h6
  refine go hC Zfm (Zw5 std n w ((a:Int)+2*w) a ys) (by simp;omega) (hq ys h2 h3 h4 ?_)
  have:a=n:=by omega
  rw[←this];exact h5
 |succ d ih=>
  intro q a ys ha hd h1 h2 h3 h4 h5 h6
  have e1:(2*q)*w=a:=by rw[ha,Nat.mul_comm 2 q,Nat.mul_assoc]
  have e2:(2*q+1)*w=a+w:=by rw[Nat.succ_mul,e1]
  by_cases c1:a+2*w≤n
  ·have hb:smB 1000000 ys (a:Int) ((a:Int)+w) ((a:Int)+2*w)=true:=by
    unfold smB
    rw[h3,show((a:Int)+w).toNat=a+w by omega,show((a:Int)+2*w).toNat=a+2*w by omega,Int.toNat_natCast,
     sortedB_iff.mpr (Zkl h6 e1.symm (by omega) (by omega) (by omega)),sortedB_iff.mpr (Zkl h6 e2.symm (by omega) (by omega) (by omega))]
    simp only[Bool.and_true,decide_eq_true_eq]
    omega
   have hw:=ZFO std n w ((a:Int)+2*w) a ys
   simp only[ZbT,hb,show((a:Int)+2*w).toNat=a+2*w by omega,Int.toNat_natCast]at hw
   refine go hC Zfm hw (by simp;omega) ?_
   have:=ih (q+1) (a+2*w) (Zbr a (a+2*w) ys) (by rw[ha,Nat.add_mul,Nat.one_mul]) (by omega) c1 (by rw[ZcF _ _ _ (by omega) (by omega),h2]) (ZhG _ _ _ (by omega) h3) (by rw[ZhJ _ _ _ (by omega),h4]) (ZhC h5 ha (by omega) (by omega) (by omega)) (ZtQ h6 (by omega) (by omega))
   rw[show ((a+2*w:Nat):Int)=(a:Int)+2*w by omega]at this
   exact this
  ·by_cases c2:a+w<n
   ·have hb:smB 1000000 ys (a:Int) ((a:Int)+w) (n:Int)=true:=by
     unfold smB
     rw[h3,show((a:Int)+w).toNat=a+w by omega,Int.toNat_natCast,Int.toNat_natCast,
      sortedB_iff.mpr (Zkl h6 e1.symm (by omega) (by omega) (by omega)),sortedB_iff.mpr (Zkl h6 e2.symm (by omega) (by omega) (by omega))]
     simp only[Bool.and_true,decide_eq_true_eq]
     omega
    have hw:=ZFh std n w ((a:Int)+2*w) a ys
    simp only[ZbT,hb,Int.toNat_natCast]at hw
    refine go hC Zfm hw (by simp;omega) ?_
    exact hq (Zbr a n ys) (by rw[ZcF _ _ _ (by omega) (by omega),h2]) (ZhG _ _ _ (by omega) h3) (by rw[ZhJ _ _ _ (by omega),h4]) (ZhC h5 ha (by omega) (by omega) (by omega))
   ·refine go hC Zfm (Zw5 std n w ((a:Int)+2*w) a ys) (by simp;omega) (hq ys h2 h3 h4 ?_)
    intro p k l q1 q2 q3 q4
    by_cases hl:l<a
    ·exact h5 p k l q1 q2 q3 hl
    ·have:p=q:=Zvo (l:=l) (by omega) q3 (by omega) (by omega)
     subst this
     exact h6 (2*p) k l (by omega) q2 (by omega) (by omega) (by omega)
theorem Zut:∀(d w:Nat) (ys:List AV),n-w≤d→20≤w→w<2000000→ys.length=n→ZaK ys=true→Zax ys=Zax xs→Zwt w ys n→
 Ev C (Zb4 n [] w) (ZbH n ys w) (Zh1 137 140 5 (.big shN (Zax xs)) (.tup [])):=by
 have hend:∀(w:Nat) (ys:List AV),n≤w→w<2000000→ys.length=n→Zax ys=Zax xs→Zwt w ys n→Ev C (Zb4 n [] w) (ZbH n ys w) (Zh1 137 140 5 (.big shN (Zax xs)) (.tup [])):=by
  intro w ys hnw _ h2 h4 h5
  have hs:Zax xs=ys:=by
   rw[←h4]
   refine Zbq ?_
   have:=Za9 (xs:=ys) (i:=0) (j:=n) (by omega) fun k l r1 r2 r3=>h5 0 k l (by omega) r2 (by omega) r3
   rwa[←h2,List.take_length,List.drop_zero]at this
  rw[hs]
  exact Zd7 hC Zfm (ZEM std n ys w) (by simp;omega) rfl rfl rfl rfl
 intro d
 induction d with
 |zero=>intro w ys hd h0 hw2 h2 h3 h4 h5;exact hend w ys (by omega) hw2 h2 h4 h5
 |succ d ih=>
  intro w ys hd h0 hw2 h2 h3 h4 h5
  by_cases c:w<n
  ·refine go hC Zfm (ZIf std n ys w) (by simp;omega) ?_
   have:=ZuP hC xs n hL w h0 c (fun zs z1 z2 z3 z4=>by
    have:=ih (2*w) zs (by omega) (by omega) (by omega) z1 z2 z3 z4
    rw[show ((2*w:Nat):Int)=(w:Int)*2 by omega]at this
    exact this) n 0 0 ys (by omega) (by omega) (by omega) h2 h3 h4 (fun _ _ _ _ _ _ h=>absurd h (by omega)) (fun q k l q1 q2 q3 _ q5=>h5 q k l q1 q2 q3 (by omega))
   have e:((0:Nat):Int)+2*(w:Int)=std.mul 2 (w:Int):=by simp
   rw[e]at this
   exact this
  ·exact hend w ys (by omega) hw2 h2 h4 h5
theorem Zur:∀(d q:Nat) (ys:List AV),n-q*20≤d→q*20≤n→ys.length=n→ZaK ys=true→Zax ys=Zax xs→Zwt 20 ys (q*20)→
 Ev C (Zc5 n ((q*20:Nat):Int) ((q*20:Nat)+20) []) (Zcl n ((q*20:Nat):Int) ((q*20:Nat)+20) ys) (Zh1 137 140 5 (.big shN (Zax xs)) (.tup [])):=by
 have hend:∀(q:Nat) (ys:List AV),q*20≤n→n<q*20+20→ys.length=n→ZaK ys=true→Zax ys=Zax xs→Zwt 20 ys (q*20)→Ev C (Zc5 n ((q*20:Nat):Int) ((q*20:Nat)+20) []) (Zcl n ((q*20:Nat):Int) ((q*20:Nat)+20) ys) (Zh1 137 140 5 (.big shN (Zax xs)) (.tup [])):=by
  intro q ys h1 h1' h2 h3 h4 h5
  have hb:sgB ys ((q*20:Nat):Int) n=true:=by
   unfold sgB
   rw[h3]
   simp only[Bool.and_true,decide_eq_true_eq]
   omega
  have hw:=ZGu std n ((q*20:Nat):Int) (((q*20:Nat):Int)+20) ys
  simp only[hb,Int.toNat_natCast]at hw
  refine go hC Zfm hw (by simp;omega) ?_
  exact Zut hC xs n hL n 20 (Zbr (q*20) n ys) (by omega) (by omega) (by omega) (by rw[ZcF _ _ _ (by omega) (by omega),h2]) (ZhG _ _ _ (by omega) h3) (by rw[ZhJ _ _ _ (by omega),h4]) (ZhC h5 rfl (by omega) (by omega) (by omega))
 intro d
 induction d with
 |zero=>intro q ys hd h1 h2 h3 h4 h5;exact hend q ys h1 (by omega) h2 h3 h4 h5
 |succ d ih=>
  intro q ys hd h1 h2 h3 h4 h5
  by_cases c:q*20+20≤n
  ·have hb:sgB ys ((q*20:Nat):Int) (((q*20:Nat):Int)+20)=true:=by
    unfold sgB
    rw[h3]
    simp only[Bool.and_true,decide_eq_true_eq]
    omega
   have hw:=ZHO std n ((q*20:Nat):Int) (((q*20:Nat):Int)+20) ys
   simp only[hb,Int.toNat_natCast,show(((q*20:Nat):Int)+20).toNat=q*20+20 by omega]at hw
   refine go hC Zfm hw (by simp;omega) ?_
   have:=ih (q+1) (Zbr (q*20) (q*20+20) ys) (by omega) (by omega) (by rw[ZcF _ _ _ (by omega) (by omega),h2]) (ZhG _ _ _ (by omega) h3) (by rw[ZhJ _ _ _ (by omega),h4]) (by rw[Nat.succ_mul];exact ZhC h5 rfl (by omega) (by omega) (by omega))
   rw[show ((((q+1)*20:Nat)):Int)=((q*20:Nat):Int)+20 by omega]at this
   exact this
  ·exact hend q ys h1 (by omega) h2 h3 h4 h5
end
theorem Zq5(xs:List AV)(hL:xs.length<900000)(hn:ZaK xs=true):Zmo Try.prog 137 140 5 (.big shN xs) (.big shN (Zax xs)) [.int .i64 xs.length, .fn 119 []] (.tup []):=
 Zhm (ZtP xs xs.length) fun C hC=>by
  refine go hC Zfm (ZD0 std xs xs.length) (by simp) ?_
  exact Zur hC xs xs.length hL xs.length 0 xs (by omega) (by omega) rfl hn rfl (fun _ _ _ _ _ _ h=>absurd h (by omega))
end Go.Proofs.Ytjhdnpmojhkbjaa
/- Contracts as a list. No condition. -/
namespace Go.Proofs.Ytjhdnpmojhkbjaa
def stB(xs:List AV)(n:Int):Bool:=decide (n=xs.length∧n<900000)&&ZaK xs
theorem ZsO(xs:List AV)(n:Int)(h:stB xs n=true):ZiT Try.prog 1000137 [.list (.big shN xs), .int .i64 n, .fn 119 []] (.tup []) (some ⟨140,5, .big shN (Zax xs)⟩):=by
 unfold stB at h
 simp only[Bool.and_eq_true,decide_eq_true_eq]at h
 obtain⟨⟨h1,h2⟩,h5⟩:=h
 subst h1
 exact ZcX (f:=137) rfl (Zq5 xs (by omega) h5)
def k137:Ctr:=⟨1000137,0,fun _ a=>match a with |[.list (.big (.agg [.int .i64, .int .i64, .int .i64, .ints .i64, .int .i64]) xs), .int .i64 n, .fn 119 []]=>some (decide (stB xs n=true), .tup [],some ⟨140,5, .big shN (Zax xs)⟩) |_=>none⟩
theorem ZB1:k137.OK Try.prog:=fun pa args r fr h=>by
 simp only[k137]at h
 split at h
 ·simp only[Option.some.injEq,Prod.mk.injEq,decide_eq_true_eq]at h
  obtain⟨h0,rfl,rfl⟩:=h
  exact ZsO _ _ h0
 ·cases h
def BO7:List Ctr:=[k137]++BO6
theorem ZvZ:Zap Try.prog BO7:=⟨ZB1,Zfm⟩
end Go.Proofs.Ytjhdnpmojhkbjaa
/- Paths of functions, printed by the explorer (Gx). No condition. -/
namespace Go.Proofs.Ytjhdnpmojhkbjaa
set_option maxRecDepth 100000
set_option linter.unusedVariables false
def Zvb(xs:List AV):AFrame:={ fn:=118,N:=9,env:=[(0,AV.row 0 0),(1,AV.fn 119 [])],todo:=[.code a118.code],defs:=[],rnd:=none,ret:=false,res:=[] }
def ZNl(xs:List AV):List AFrame:=[(Zvb xs)]
theorem ZtF(xs:List AV):Zak tab 118 [AV.row 0 0,AV.fn 119 []]=some (Zvb xs):=rfl
def ZHH(xs:List AV):Zaa:=[(0,{ base:=0,blks:=[Blk.row 140 5 (Row.big (Sh.agg [Sh.int .i64,Sh.int .i64,Sh.int .i64,Sh.ints .i64,Sh.int .i64]) xs)] })]
theorem ZJe(A:Ar)(xs:List AV):ZaY A tab BO7 8 [] 118 (ZNl xs) (ZHH xs)=
 some (tr [1,4] [Zab (decide (stB xs (A.int (A.lenA xs))=true)) true],
  AV.tup [],140,5,Row.big (.agg [.int .i64, .int .i64, .int .i64, .ints .i64, .int .i64]) (List.foldl ZhB [] xs)):=by kernel_rfl
end Go.Proofs.Ytjhdnpmojhkbjaa
/- Contracts as a list. No condition. -/
namespace Go.Proofs.Ytjhdnpmojhkbjaa
theorem ZqU(xs:List AV)(hL:xs.length<900000)(hn:ZaK xs=true):Zmo Try.prog 118 140 5 (.big shN xs) (.big shN (Zax xs)) [.fn 119 []] (.tup []):=
 Zhm (ZtF xs) fun C hC=>by
  have hb:stB xs xs.length=true:=by
   unfold stB
   rw[hn]
   simp only[Bool.and_true,decide_eq_true_eq]
   exact⟨trivial,by omega⟩
  have hw:=ZJe std xs
  simp only[ZcZ,Zhp,hb]at hw
  exact Zd7 hC ZvZ hw (by simp) rfl rfl rfl rfl
def soB(xs:List AV):Bool:=decide (xs.length<900000)&&ZaK xs
theorem Zp8(xs:List AV)(h:soB xs=true):ZiT Try.prog 1000118 [.list (.big shN xs), .fn 119 []] (.tup []) (some ⟨140,5, .big shN (Zax xs)⟩):=by
 unfold soB at h
 simp only[Bool.and_eq_true,decide_eq_true_eq]at h
 exact ZcX (f:=118) rfl (ZqU xs h.1 h.2)
def k118:Ctr:=⟨1000118,0,fun _ a=>match a with |[.list (.big (.agg [.int .i64, .int .i64, .int .i64, .ints .i64, .int .i64]) xs), .fn 119 []]=>some (decide (soB xs=true), .tup [],some ⟨140,5, .big shN (Zax xs)⟩) |_=>none⟩
theorem ZBZ:k118.OK Try.prog:=fun pa args r fr h=>by
 simp only[k118]at h
 split at h
 ·simp only[Option.some.injEq,Prod.mk.injEq,decide_eq_true_eq]at h
  obtain⟨h0,rfl,rfl⟩:=h
  exact Zp8 _ h0
 ·cases h
def BO8:List Ctr:=[k118]++BO7
theorem ZHg:Zap Try.prog BO8:=⟨ZBZ,ZvZ⟩
end Go.Proofs.Ytjhdnpmojhkbjaa
/- Contracts as a list. No condition. -/
namespace Go.Proofs.Ytjhdnpmojhkbjaa
theorem ZfO(x:Int):ZaL x 64=x%64:=by
 unfold ZaL
 rcases Int.le_total 0 x with h |h
 ·rw[Int.tmod_eq_emod_of_nonneg h]
  omega
 ·obtain⟨y,rfl⟩:∃y,x= -y:=⟨-x,by omega⟩
  rw[Int.neg_tmod,Int.tmod_eq_emod_of_nonneg (by omega:(0:Int)≤y)]
  omega
def ZfV(n c:Int):Int:=if ZaL (c-n) 64≤32 then n+ZaL (c-n) 64 else n+ZaL (c-n) 64-64
def BO9:List Ctr:=BO8
theorem ZIK:Zap Try.prog BO9:=ZHg
end Go.Proofs.Ytjhdnpmojhkbjaa
/- Contracts as a list. No condition. -/
namespace Go.Proofs.Ytjhdnpmojhkbjaa
def Zdw(x:AV):AV:=AV.agg (Row.gen [AV.int .i64 (AV.toI (AV.cellAt x 0)),AV.int .i64 (AV.toI (AV.cellAt x 1)),AV.int .i64 (AV.toI (AV.cellAt x 2)),AV.list (.ints .i64 (AV.toIs (AV.cellAt x 3)))])
abbrev Zg8:Sh:=.agg [.int .i64, .int .i64, .int .i64, .ints .i64]
def chF(x:AV):Int:=(AV.cellAt x 0).toI
def ctF(x:AV):Int:=(AV.cellAt x 1).toI
def ctB(fs:List AV):Bool:=fs.all fun f=>decide (0≤ctF f∧ctF f≤63)
theorem ZoD(n c:Int):n-31≤ZfV n c∧ZfV n c≤n+32:=by
 unfold ZfV;rw[ZfO];split<;>omega
section
variable {C:Ctx}(hC:C.P=Try.prog){Q:List AFrame→Zaa→Prop}(c:Int)(fs:List AV)
include hC
end
def nmB(fs:List AV):Bool:=decide (fs.length<10000)&&ctB fs
def BOa:List Ctr:=BO9
theorem ZnH:Zap Try.prog BOa:=ZIK
end Go.Proofs.Ytjhdnpmojhkbjaa
/- The ordered frames: the compacted stable sort is the reference's list. No condition. -/
namespace Go.Proofs.Ytjhdnpmojhkbjaa
def Zmt(f:AV)(k:Int):AV:=AV.agg (Row.gen [AV.int .i64 (AV.toI (AV.cellAt f 0)),AV.int .i64 (AV.toI (AV.cellAt f 1)),AV.int .i64 (AV.toI (AV.cellAt f 2)),AV.list (.ints .i64 (AV.toIs (AV.cellAt f 3))),AV.int .i64 k])
theorem Zkt(f:AV)(k:Int):Zav (Zmt f k)=k:=rfl
def ZiY(c:Int):List AV→Int→List AV
 |[],_=>[]
 |f::fs,last=>if chF f=c then Zmt f (ZfV last (ctF f))::ZiY c fs (ZfV last (ctF f))else ZiY c fs last
def Zbw(c:Int):List AV→List AV
 |[]=>[]
 |f::fs=>if chF f=c then Zmt f (ctF f+64)::ZiY c fs (ctF f+64)else Zbw c fs
def cpA(p:AV):List AV→List AV
 |[]=>[]
 |y::l=>if Zav y=Zav p then cpA y l else y::cpA y l
def cpN:List AV→List AV
 |[]=>[]
 |x::l=>x::cpA x l
def StrN(l:List AV):Prop:=l.Pairwise fun x y=>Zav x<Zav y
theorem StrN.sort{l:List AV}(h:StrN l):Za5 l:=h.imp fun h=>Int.le_of_lt h
theorem Zus{k:Int}{l:List AV}(h:∀x∈l,Zav x≠k):fkN k l=[]:=by
 unfold fkN
 rw[List.filter_eq_nil_iff]
 intro x hx
 simpa using h x hx
theorem ZwR:∀(l:List AV) (p:AV),Za5 (p::l)→StrN (p::cpA p l)∧∀k,fkN k (cpA p l)=if k=Zav p then []else(fkN k l).take 1
 |[],p,_=>⟨by simp[cpA,StrN],fun k=>by simp[cpA,fkN]⟩
 |y::l,p,h=>by
  obtain⟨h1,h2⟩:=List.pairwise_cons.mp h
  obtain⟨i1,i2⟩:=ZwR l y h2
  have hpy:=h1 y (by simp)
  unfold cpA
  by_cases e:Zav y=Zav p
  ·rw[if_pos e]
   obtain⟨j1,j2⟩:=List.pairwise_cons.mp i1
   refine⟨List.pairwise_cons.mpr ⟨fun z hz=>by have:=j1 z hz;omega,j2⟩,fun k=>?_⟩
   rw[i2 k,e,Za6]
   by_cases hk:k=Zav p
   ·rw[if_pos hk,if_pos hk]
   ·rw[if_neg hk,if_neg hk,if_neg (by omega)]
  ·rw[if_neg e]
   refine⟨List.pairwise_cons.mpr ⟨fun z hz=>?_,i1⟩,fun k=>?_⟩
   ·rcases List.mem_cons.mp hz with rfl |hz
    ·omega
    ·have:=(List.pairwise_cons.mp i1).1 z hz;omega
   ·rw[Za6,Za6,i2 k]
    by_cases hk:k=Zav p
    ·rw[if_pos hk,if_neg (by omega)]
     have hn:fkN k (cpA y l)=[]:=Zus fun z hz=>by
      have:=(List.pairwise_cons.mp i1).1 z hz;omega
     rw[←i2 k,hn]
    ·rw[if_neg hk]
     by_cases hy:Zav y=k
     ·rw[if_pos hy,if_pos hy,if_pos hy.symm];simp
     ·rw[if_neg hy,if_neg hy,if_neg (fun h=>hy h.symm)]
theorem ZEO{l:List AV}(h:Za5 l):StrN (cpN l)∧∀k,fkN k (cpN l)=(fkN k l).take 1:=by
 cases l with
 |nil=>exact⟨List.Pairwise.nil,fun k=>by simp[cpN,fkN]⟩
 |cons x l=>
  obtain⟨i1,i2⟩:=ZwR l x h
  refine⟨i1,fun k=>?_⟩
  show fkN k (x::cpA x l)=_
  rw[Za6,Za6,i2 k]
  by_cases hk:Zav x=k
  ·rw[if_pos hk,if_pos hk,if_pos hk.symm];simp
  ·rw[if_neg hk,if_neg hk,if_neg (fun h=>hk h.symm)]
end Go.Proofs.Ytjhdnpmojhkbjaa
/- Paths of functions, printed by the explorer (Gx). No condition. -/
namespace Go.Proofs.Ytjhdnpmojhkbjaa
set_option maxRecDepth 100000
set_option linter.unusedVariables false
def ZuZ(a:Int)(b:Int):AFrame:={ fn:=139,N:=53,env:=[(0,AV.nils),(1,AV.int .i64 a),(2,AV.int .i64 b),(3,AV.fn 119 [])],todo:=[.code a139.code],defs:=[],rnd:=none,ret:=false,res:=[] }
def ZNg(a:Int)(b:Int):List AFrame:=[(ZuZ a b)]
theorem Zua(a:Int)(b:Int):Zak tab 139 [AV.nils,AV.int .i64 a,AV.int .i64 b,AV.fn 119 []]=some (ZuZ a b):=rfl
def ZiA(a b n0:Int):List AFrame:=[{ fn:=139,N:=53,env:=[(0,AV.nils),(1,AV.int .i64 a),(2,AV.int .i64 b),(3,AV.fn 119 []),(8,AV.int .i64 n0)],todo:=.code (ACode.gh [] ZqA)::Zvi,defs:=[],rnd:=none,ret:=false,res:=[] }]
def Zg1(a:Int)(b:Int)(n0:Int):Zaa:=[]
abbrev Zmh(a:Int)(b:Int)(n0:Int):List AFrame×Zaa:=(ZiA a b n0,Zg1 a b n0)
theorem ZDb(A:Ar)(a b:Int):Zad A tab BOa 9 [] (ZNg a b) []=
 some (tr [1,1] [A.inR .i64 (A.add a 1)],
  Zmh (a) (b) (A.add a 1)):=by kernel_rfl
theorem ZDV(A:Ar)(a b n0:Int):Zaz A tab BOa 11 [false] 139 (ZiA a b n0) (Zg1 a b n0)=
 some (tr [1,3] [!A.lt n0 b],
  AV.tup [],none):=by kernel_rfl
def ZvX:AFrame:={ fn:=121,N:=66,env:=[(0,AV.nils),(1,AV.fn 122 [])],todo:=[.code a121.code],defs:=[],rnd:=none,ret:=false,res:=[ARes.tmp 4] }
def ZLs:List AFrame:=[ZvX]
theorem ZuT:Zak tab 121 [AV.nils,AV.fn 122 []]=some ZvX:=rfl
theorem ZEo(A:Ar):Zaz A tab BOa 18 [true] 121 (ZLs ) []=
 some (tr [3,4] [A.lt (A.int 0) 2],
  AV.nils,none):=by kernel_rfl
end Go.Proofs.Ytjhdnpmojhkbjaa
/- Contracts as a list. No condition. -/
namespace Go.Proofs.Ytjhdnpmojhkbjaa
theorem Zuj(a b:Int)(h:b≤a+1∧ -1000000≤a∧a≤1000000):ZaH Try.prog 139 [.nils, .int .i64 a, .int .i64 b, .fn 119 []] (.tup []) none:=
 start (Zua a b) fun C hC=>go hC ZnH (ZDb std a b) (by simp;omega) (fin hC ZnH (ZDV std a b (a+1)) (by simp;omega) rfl rfl)
theorem Zno:ZaH Try.prog 121 [.nils, .fn 122 []] .nils none:=
 start ZuT fun C hC=>fin hC ZnH (ZEo std) (by simp) rfl rfl
def Zyj(a b:Int):Bool:=decide (b≤a+1∧ -1000000≤a∧a≤1000000)
def k139n:Ctr:=⟨139,0,fun _ a=>match a with |[.nils, .int .i64 a, .int .i64 b, .fn 119 []]=>some (decide (Zyj a b=true), .tup [],none) |_=>none⟩
theorem Zuy:k139n.OK Try.prog:=fun pa args r fr h=>by
 simp only[k139n]at h
 split at h
 ·simp only[Option.some.injEq,Prod.mk.injEq,decide_eq_true_eq]at h
  obtain⟨h0,rfl,rfl⟩:=h
  exact Zuj _ _ (of_decide_eq_true h0)
 ·cases h
def k121n:Ctr:=⟨121,0,fun _ a=>match a with |[.nils, .fn 122 []]=>some (true, .nils,none) |_=>none⟩
theorem Ztg:k121n.OK Try.prog:=fun pa args r fr h=>by
 simp only[k121n]at h
 split at h
 ·cases h
  exact Zno
 ·cases h
def BOb:List Ctr:=[k139n,k121n]++BOa
theorem Zoq:Zap Try.prog BOb:=⟨Zuy,⟨Ztg,ZnH⟩⟩
end Go.Proofs.Ytjhdnpmojhkbjaa
/- Paths of functions, printed by the explorer (Gx). No condition. -/
namespace Go.Proofs.Ytjhdnpmojhkbjaa
set_option maxRecDepth 100000
set_option linter.unusedVariables false
def Zwg(n:Int):AFrame:={ fn:=137,N:=63,env:=[(0,AV.nils),(1,AV.int .i64 n),(2,AV.fn 119 [])],todo:=[.code a137.code],defs:=[],rnd:=none,ret:=false,res:=[] }
def ZKL(n:Int):List AFrame:=[(Zwg n)]
theorem Zte(n:Int):Zak tab 137 [AV.nils,AV.int .i64 n,AV.fn 119 []]=some (Zwg n):=rfl
def Zis(n:Int):List AFrame:=[{ fn:=137,N:=63,env:=[(0,AV.nils),(1,AV.int .i64 n),(2,AV.fn 119 []),(6,AV.int .i64 20),(7,AV.int .i64 0),(8,AV.int .i64 20)],todo:=.code (ACode.gh [] Zr2)::Zvc,defs:=[],rnd:=none,ret:=false,res:=[] }]
def Zg7(n:Int):Zaa:=[]
abbrev Zlw(n:Int):List AFrame×Zaa:=(Zis n,Zg7 n)
def ZiW(n n0:Int):List AFrame:=[{ fn:=137,N:=63,env:=[(0,AV.nils),(1,AV.int .i64 n),(2,AV.fn 119 []),(6,AV.int .i64 n0)],todo:=.code (ACode.gh [] Zr1)::Zxd,defs:=[],rnd:=none,ret:=false,res:=[] }]
def Zhk(n:Int)(n0:Int):Zaa:=[]
abbrev ZlT(n:Int)(n0:Int):List AFrame×Zaa:=(ZiW n n0,Zhk n n0)
theorem ZIZ(A:Ar)(n:Int):Zad A tab BOb 14 [] (ZKL n) []=
 some (tr [4] [],
  Zlw (n)):=by kernel_rfl
theorem ZFc(A:Ar)(n:Int):Zad A tab BOb 21 [false] (Zis n) (Zg7 n)=
 some (tr [0,4,3] [decide (Zyj 0 n=true),!A.le 20 n],
  ZlT (n) (20)):=by kernel_rfl
theorem ZDg(A:Ar)(n n0:Int):Zaz A tab BOb 11 [false] 137 (ZiW n n0) (Zhk n n0)=
 some (tr [1,3] [!A.lt n0 n],
  AV.tup [],none):=by kernel_rfl
end Go.Proofs.Ytjhdnpmojhkbjaa
/- Contracts as a list. No condition. -/
namespace Go.Proofs.Ytjhdnpmojhkbjaa
theorem ZoT:ZaH Try.prog 137 [.nils, .int .i64 0, .fn 119 []] (.tup []) none:=
 start (Zte 0) fun C hC=>go hC Zoq (ZIZ std 0) (by simp) (go hC Zoq (ZFc std 0) (by simp[Zyj]) (fin hC Zoq (ZDg std 0 20) (by simp) rfl rfl))
theorem ZmF(n:Int)(h:n=0):ZaH Try.prog 137 [.nils, .int .i64 n, .fn 119 []] (.tup []) none:=by subst h;exact ZoT
def ZAr(n:Int):Bool:=decide (n=0)
def k137n:Ctr:=⟨137,0,fun _ a=>match a with |[.nils, .int .i64 n, .fn 119 []]=>some (decide (ZAr n=true), .tup [],none) |_=>none⟩
theorem ZuJ:k137n.OK Try.prog:=fun pa args r fr h=>by
 simp only[k137n]at h
 split at h
 ·simp only[Option.some.injEq,Prod.mk.injEq,decide_eq_true_eq]at h
  obtain⟨h0,rfl,rfl⟩:=h
  exact ZmF _ (of_decide_eq_true h0)
 ·cases h
def BOc:List Ctr:=[k137n]++BOb
theorem ZwE:Zap Try.prog BOc:=⟨ZuJ,Zoq⟩
end Go.Proofs.Ytjhdnpmojhkbjaa
/- Paths of functions, printed by the explorer (Gx). No condition. -/
namespace Go.Proofs.Ytjhdnpmojhkbjaa
set_option maxRecDepth 100000
set_option linter.unusedVariables false
def Zwp:AFrame:={ fn:=118,N:=9,env:=[(0,AV.nils),(1,AV.fn 119 [])],todo:=[.code a118.code],defs:=[],rnd:=none,ret:=false,res:=[] }
def ZNf:List AFrame:=[Zwp]
theorem ZtZ:Zak tab 118 [AV.nils,AV.fn 119 []]=some Zwp:=rfl
theorem ZFr(A:Ar):Zaz A tab BOc 8 [] 118 (ZNf ) []=
 some (tr [1,4] [decide (ZAr (A.int 0)=true)],
  AV.tup [],none):=by kernel_rfl
end Go.Proofs.Ytjhdnpmojhkbjaa
/- Contracts as a list. No condition. -/
namespace Go.Proofs.Ytjhdnpmojhkbjaa
theorem ZpT:ZaH Try.prog 118 [.nils, .fn 119 []] (.tup []) none:=
 start ZtZ fun C hC=>fin hC ZwE (ZFr std) (by simp[ZAr]) rfl rfl
def k118n:Ctr:=⟨118,0,fun _ a=>match a with |[.nils, .fn 119 []]=>some (true, .tup [],none) |_=>none⟩
theorem ZtI:k118n.OK Try.prog:=fun pa args r fr h=>by
 simp only[k118n]at h
 split at h
 ·cases h
  exact ZpT
 ·cases h
def BOd:List Ctr:=[k118n]++BOc
theorem ZlX:Zap Try.prog BOd:=⟨ZtI,ZwE⟩
end Go.Proofs.Ytjhdnpmojhkbjaa
/- Paths of functions, printed by the explorer (Gx). No condition. -/
namespace Go.Proofs.Ytjhdnpmojhkbjaa
set_option maxRecDepth 100000
set_option linter.unusedVariables false
def Zwk(a:Int)(b:Int)(fs:List AV):AFrame:={ fn:=117,N:=21,env:=[(0,AV.list (Row.big (Sh.agg [Sh.int .i64,Sh.int .i64,Sh.int .i64,Sh.ints .i64]) fs)),(1,AV.val (Go.Value.func (Go.Fn.func 110) { toList:=[Go.Value.agg { toList:=[Go.Value.int .i64 a,Go.Value.int .i64 b] }] } { toList:=[] }))],todo:=[.code a117.code],defs:=[],rnd:=none,ret:=false,res:=[ARes.tmp 4] }
def ZM8(a:Int)(b:Int)(fs:List AV):List AFrame:=[(Zwk a b fs)]
theorem Zt6(a:Int)(b:Int)(fs:List AV):Zak tab 117 [AV.list (Row.big (Sh.agg [Sh.int .i64,Sh.int .i64,Sh.int .i64,Sh.ints .i64]) fs),AV.val (Go.Value.func (Go.Fn.func 110) { toList:=[Go.Value.agg { toList:=[Go.Value.int .i64 a,Go.Value.int .i64 b] }] } { toList:=[] })]=some (Zwk a b fs):=rfl
def Zc4(a b:Int)(fs:List AV)(n0 n1:Int):List AFrame:=[{ fn:=117,N:=21,env:=[(1,AV.val (Go.Value.func (Go.Fn.func 110) { toList:=[Go.Value.agg { toList:=[Go.Value.int .i64 a,Go.Value.int .i64 b] }] } { toList:=[] })),(8,AV.list (Row.big (Sh.agg [Sh.int .i64,Sh.int .i64,Sh.int .i64,Sh.ints .i64]) fs)),(9,AV.int .i64 n0),(10,AV.int .i64 n1)],todo:=.code (ACode.gh [] Zvq)::ZC8,defs:=[],rnd:=none,ret:=false,res:=[ARes.tmp 4] }]
def Zcm(a:Int)(b:Int)(fs:List AV)(n0:Int)(n1:Int):Zaa:=[]
abbrev Zho(a:Int)(b:Int)(fs:List AV)(n0:Int)(n1:Int):List AFrame×Zaa:=(Zc4 a b fs n0 n1,Zcm a b fs n0 n1)
theorem ZFJ(A:Ar)(a b:Int)(fs:List AV):Zad A tab BOd 14 [] (ZM8 a b fs) []=
 some (tr [4] [],
  Zho (a) (b) (fs) (A.int (A.lenA fs)) (0)):=by kernel_rfl
theorem ZG8(A:Ar)(a b:Int)(fs:List AV)(n0 n1:Int):Zaz A tab BOd 36 [true,true] 117 (Zc4 a b fs n0 n1) (Zcm a b fs n0 n1)=
 some (tr [3,3,5,0,1] [A.not (A.eq (ZeB a b ((A.nthA fs (A.nat n1)).cellAt 0).toI ((A.nthA fs (A.nat n1)).cellAt 1).toI ((A.nthA fs (A.nat n1)).cellAt 2).toI ((A.nthA fs (A.nat n1)).cellAt 3).toIs) 0),decide (List.length ((A.nthA fs (A.nat n1)).cellAt 3).toIs≤1000000),Zab (Zab (A.le 0 n1) (Nat.blt (A.nat n1) (A.lenA fs))) true,A.lt n1 n0],
  AV.int .i64 (ZeB a b ((A.nthA fs (A.nat n1)).cellAt 0).toI ((A.nthA fs (A.nat n1)).cellAt 1).toI ((A.nthA fs (A.nat n1)).cellAt 2).toI ((A.nthA fs (A.nat n1)).cellAt 3).toIs),none):=by kernel_rfl
theorem ZHc(A:Ar)(a b:Int)(fs:List AV)(n0 n1:Int):Zad A tab BOd 38 [true,false] (Zc4 a b fs n0 n1) (Zcm a b fs n0 n1)=
 some (tr [1,0,3,5,0,1] [A.inR .i64 (A.add n1 1),!A.not (A.eq (ZeB a b ((A.nthA fs (A.nat n1)).cellAt 0).toI ((A.nthA fs (A.nat n1)).cellAt 1).toI ((A.nthA fs (A.nat n1)).cellAt 2).toI ((A.nthA fs (A.nat n1)).cellAt 3).toIs) 0),decide (List.length ((A.nthA fs (A.nat n1)).cellAt 3).toIs≤1000000),Zab (Zab (A.le 0 n1) (Nat.blt (A.nat n1) (A.lenA fs))) true,A.lt n1 n0],
  Zho (a) (b) (fs) (n0) (A.add n1 1)):=by kernel_rfl
theorem ZF5(A:Ar)(a b:Int)(fs:List AV)(n0 n1:Int):Zaz A tab BOd 13 [false] 117 (Zc4 a b fs n0 n1) (Zcm a b fs n0 n1)=
 some (tr [2,1] [!A.lt n1 n0],
  AV.int .i64 0,none):=by kernel_rfl
end Go.Proofs.Ytjhdnpmojhkbjaa
/- Contracts as a list. No condition. -/
namespace Go.Proofs.Ytjhdnpmojhkbjaa
def dtF(x:AV):List Int:=(AV.cellAt x 3).toIs
def frW(a b:Int)(x:AV):Int:=ZeB a b (AV.toI (AV.cellAt x 0)) (AV.toI (AV.cellAt x 1)) (AV.toI (AV.cellAt x 2)) (AV.toIs (AV.cellAt x 3))
def ZfC(a b:Int):List AV→Int
 |[]=>0
 |f::fs=>if frW a b f=0 then ZfC a b fs else frW a b f
def Zaw(fs:List AV):Bool:=decide (fs.length≤1000000)&&fs.all fun f=>decide ((dtF f).length≤1000000)
theorem ZsB{C:Ctx}(hC:C.P=Try.prog)(a b:Int)(fs:List AV)(hl:fs.length≤1000000)(hd:∀f∈fs,(dtF f).length≤1000000):∀(d i:Nat),fs.length-i=d→i≤fs.length→
 Ev C (Zc4 a b fs fs.length i) (Zcm a b fs fs.length i) (ZdV 117 (.int .i64 (ZfC a b (fs.drop i))) none):=by
 intro d
 induction d with
 |zero=>
  intro i hd' hi
  exact fin hC ZlX (ZF5 std a b fs fs.length i) (by simp;omega) (by rw[List.drop_of_length_le (by omega)];rfl) rfl
 |succ d ih=>
  intro i hd' hi
  have hlt:i<fs.length:=by omega
  have hg:fs.getD i .top=fs[i]:=by simp[hlt]
  have hdd:(AV.toIs (AV.cellAt fs[i] 3)).length≤1000000:=hd fs[i] (List.getElem_mem hlt)
  rw[List.drop_eq_getElem_cons hlt,ZfC]
  by_cases h:frW a b fs[i]=0
  ·rw[if_pos h]
   have h':=h
   unfold frW at h'
   have hw:=ZHc std a b fs fs.length i
   simp only[ZaC,Zar,Int.toNat_natCast,hg,h']at hw
   exact go hC ZlX hw (by simp[hlt,hdd];omega) (ih (i+1) (by omega) (by omega))
  ·rw[if_neg h]
   have h':=h
   unfold frW at h'
   have hw:=ZG8 std a b fs fs.length i
   simp only[ZaC,Zar,Int.toNat_natCast,hg]at hw
   exact fin hC ZlX hw (by simp[hlt,hdd,h']) rfl rfl
theorem ZBi(a b:Int)(fs:List AV)(h:Zaw fs=true):ZaH Try.prog 117 [.list (.big Zg8 fs),AV.val (Value.func (Fn.func 110) { toList:=[Value.agg { toList:=[Value.int IntKind.i64 a,Value.int IntKind.i64 b] }] } { toList:=[] })] (.int .i64 (ZfC a b fs)) none:=by
 unfold Zaw at h
 simp only[Bool.and_eq_true,decide_eq_true_eq,List.all_eq_true]at h
 exact start (Zt6 a b fs) fun C hC=>go hC ZlX (ZFJ std a b fs) (by simp) (ZsB hC a b fs h.1 h.2 fs.length 0 (by omega) (by omega))
def k117:Ctr:=⟨117,0,fun _ a=>match a with |[.list (.big (.agg [.int .i64, .int .i64, .int .i64, .ints .i64]) fs),AV.val (Value.func (Fn.func 110) { toList:=[Value.agg { toList:=[Value.int IntKind.i64 a,Value.int IntKind.i64 b] }] } { toList:=[] })]=>some (decide (Zaw fs=true), .int .i64 (ZfC a b fs),none) |_=>none⟩
theorem Zxg:k117.OK Try.prog:=fun pa args r fr h=>by
 simp only[k117]at h
 split at h
 ·simp only[Option.some.injEq,Prod.mk.injEq,decide_eq_true_eq]at h
  obtain⟨h0,rfl,rfl⟩:=h
  exact ZBi _ _ _ h0
 ·cases h
def BOe:List Ctr:=[k117]++BOd
theorem Zwj:Zap Try.prog BOe:=⟨Zxg,ZlX⟩
end Go.Proofs.Ytjhdnpmojhkbjaa
/- Paths of functions, printed by the explorer (Gx). No condition. -/
namespace Go.Proofs.Ytjhdnpmojhkbjaa
set_option maxRecDepth 100000
set_option linter.unusedVariables false
def ZHk(a:Int)(b:Int)(c:Int)(fs:List AV):AFrame:={ fn:=78,N:=28,env:=[(0,AV.agg (Row.gen [AV.int .i64 a,AV.int .i64 b])),(1,AV.int .i64 c),(2,AV.list (Row.big (Sh.agg [Sh.int .i64,Sh.int .i64,Sh.int .i64,Sh.ints .i64]) fs))],todo:=[.code a78.code],defs:=[],rnd:=none,ret:=false,res:=[ARes.cell 6 true 2,ARes.tmp 7] }
def ZOG(a:Int)(b:Int)(c:Int)(fs:List AV):List AFrame:=[(ZHk a b c fs)]
theorem ZxX(a:Int)(b:Int)(c:Int)(fs:List AV):Zak tab 78 [AV.agg (Row.gen [AV.int .i64 a,AV.int .i64 b]),AV.int .i64 c,AV.list (Row.big (Sh.agg [Sh.int .i64,Sh.int .i64,Sh.int .i64,Sh.ints .i64]) fs)]=some (ZHk a b c fs):=rfl
theorem ZLY(A:Ar)(a b c:Int)(fs:List AV):Zaz A tab BOe 55 [] 78 (ZOG a b c fs) []=
 some (tr [3,0,0,18,0,30] [decide (List.length [Zau [Zat a b,ZaQ b c],Zal (A.le (A.int (A.lenA fs)) 40) 8,ZfC a b fs]≤1000000),List.all [AV.int .i64 (Zau [Zat a b,ZaQ b c]),AV.int .i64 (Zal (A.le (A.int (A.lenA fs)) 40) 8),AV.int .i64 (ZfC a b fs)] fun x=>AV.bx x&&Nat.beq (Zac A x) 1,decide (Zaw fs=true),decide (List.length [Zat a b,ZaQ b c]≤1000000),List.all [AV.int .i64 (Zat a b),AV.int .i64 (ZaQ b c)] fun x=>AV.bx x&&Nat.beq (Zac A x) 1],
  AV.tup [AV.agg (Row.gen [.int .i64 a, .int .i64 b]),AV.int .i64 (Zau [Zau [Zat a b,ZaQ b c],Zal (A.le (A.int (A.lenA fs)) 40) 8,ZfC a b fs])],none):=by kernel_rfl
end Go.Proofs.Ytjhdnpmojhkbjaa
/- Contracts as a list. No condition. -/
namespace Go.Proofs.Ytjhdnpmojhkbjaa
def ZaI(a b c:Int)(fs:List AV):Int:=Zau [Zau [Zat a b,ZaQ b c],Zal (decide ((fs.length:Int)≤40)) 8,ZfC a b fs]
theorem ZGC(a b c:Int)(fs:List AV)(h:Zaw fs=true):ZaH Try.prog 78 [.agg (.gen [.int .i64 a, .int .i64 b]), .int .i64 c, .list (.big Zg8 fs)] (.tup [.agg (.gen [.int .i64 a, .int .i64 b]), .int .i64 (ZaI a b c fs)]) none:=
 start (ZxX a b c fs) fun C hC=>fin hC Zwj (ZLY std a b c fs) (by simp[h,AV.bx,Zac]) (by simp[ZaI]) rfl
def k78:Ctr:=⟨78,0,fun _ a=>match a with |[.agg (.gen [.int .i64 a, .int .i64 b]), .int .i64 c, .list (.big (.agg [.int .i64, .int .i64, .int .i64, .ints .i64]) fs)]=>some (decide (Zaw fs=true), .tup [.agg (.gen [.int .i64 a, .int .i64 b]), .int .i64 (ZaI a b c fs)],none) |_=>none⟩
theorem ZGf:k78.OK Try.prog:=fun pa args r fr h=>by
 simp only[k78]at h
 split at h
 ·simp only[Option.some.injEq,Prod.mk.injEq,decide_eq_true_eq]at h
  obtain⟨h0,rfl,rfl⟩:=h
  exact ZGC _ _ _ _ h0
 ·cases h
def BOf:List Ctr:=[k78]++BOe
theorem Zha:Zap Try.prog BOf:=⟨ZGf,Zwj⟩
end Go.Proofs.Ytjhdnpmojhkbjaa
/- Paths of functions, printed by the explorer (Gx). No condition. -/
namespace Go.Proofs.Ytjhdnpmojhkbjaa
set_option maxRecDepth 100000
set_option linter.unusedVariables false
def Zvp(xs:List AV):AFrame:={ fn:=112,N:=19,env:=[(0,AV.list (Row.big (Sh.agg [Sh.int .i64,Sh.int .i64,Sh.int .i64,Sh.ints .i64,Sh.int .i64]) xs))],todo:=[.code a112.code],defs:=[],rnd:=none,ret:=false,res:=[ARes.tmp 2] }
def ZI1(xs:List AV):List AFrame:=[(Zvp xs)]
theorem ZuE(xs:List AV):Zak tab 112 [AV.list (Row.big (Sh.agg [Sh.int .i64,Sh.int .i64,Sh.int .i64,Sh.ints .i64,Sh.int .i64]) xs)]=some (Zvp xs):=rfl
theorem ZIw(A:Ar)(xs:List AV):Zaz A tab BOf 17 [true] 112 (ZI1 xs) []=
 some (tr [2,4] [A.eq (A.int (A.lenA xs)) 0],
  AV.int .i64 0,none):=by kernel_rfl
theorem ZJf(A:Ar)(xs:List AV):Zaz A tab BOf 17 [false] 112 (ZI1 xs) []=
 some (tr [2,0,2,3,0,3,4] [A.inR .i64 (A.add (A.sub ((A.nthA xs (A.nat (A.sub (A.int (A.lenA xs)) 1))).cellAt 4).toI ((A.nthA xs (A.nat 0)).cellAt 4).toI) 1),A.inR .i64 (A.sub ((A.nthA xs (A.nat (A.sub (A.int (A.lenA xs)) 1))).cellAt 4).toI ((A.nthA xs (A.nat 0)).cellAt 4).toI),Zab (Zab (A.le 0 0) (Nat.blt (A.nat 0) (A.lenA xs))) true,Zab (Zab (A.le 0 (A.sub (A.int (A.lenA xs)) 1)) (Nat.blt (A.nat (A.sub (A.int (A.lenA xs)) 1)) (A.lenA xs))) true,A.inR .i64 (A.sub (A.int (A.lenA xs)) 1),!A.eq (A.int (A.lenA xs)) 0],
  AV.int .i64 (A.add (A.sub ((A.nthA xs (A.nat (A.sub (A.int (A.lenA xs)) 1))).cellAt 4).toI ((A.nthA xs (A.nat 0)).cellAt 4).toI) 1),none):=by kernel_rfl
def ZDj(a:Int)(b:Int)(fs:List AV):AFrame:={ fn:=20,N:=25,env:=[(0,AV.agg (Row.gen [AV.int .i64 a,AV.int .i64 b])),(1,AV.list (Row.big (Sh.agg [Sh.int .i64,Sh.int .i64,Sh.int .i64,Sh.ints .i64]) fs))],todo:=[.code a20.code],defs:=[],rnd:=none,ret:=false,res:=[ARes.tmp 4] }
def ZOg(a:Int)(b:Int)(fs:List AV):List AFrame:=[(ZDj a b fs)]
theorem ZzQ(a:Int)(b:Int)(fs:List AV):Zak tab 20 [AV.agg (Row.gen [AV.int .i64 a,AV.int .i64 b]),AV.list (Row.big (Sh.agg [Sh.int .i64,Sh.int .i64,Sh.int .i64,Sh.ints .i64]) fs)]=some (ZDj a b fs):=rfl
def Zer(a b:Int)(fs:List AV)(n0:Int):List AFrame:=[{ fn:=20,N:=25,env:=[(1,AV.list (Row.big (Sh.agg [Sh.int .i64,Sh.int .i64,Sh.int .i64,Sh.ints .i64]) fs)),(2,AV.ptr 20003 0 0 0),(5,AV.int .i64 n0)],todo:=.code (ACode.gh [] ZGa)::ZLb,defs:=[],rnd:=none,ret:=false,res:=[ARes.tmp 4] }]
def ZdI(a:Int)(b:Int)(fs:List AV)(n0:Int):Zaa:=[(20003,{ base:=0,blks:=[Blk.row 23 2 (Row.gen [AV.agg (Row.gen [AV.int .i64 a,AV.int .i64 b])])] })]
abbrev ZjB(a:Int)(b:Int)(fs:List AV)(n0:Int):List AFrame×Zaa:=(Zer a b fs n0,ZdI a b fs n0)
theorem ZKx(A:Ar)(a b:Int)(fs:List AV):Zaz A tab BOf 18 [true] 20 (ZOg a b fs) []=
 some (tr [2,5] [A.lt 40 (A.int (A.lenA fs))],
  AV.int .i64 8,none):=by kernel_rfl
theorem ZNz(A:Ar)(a b:Int)(fs:List AV):Zad A tab BOf 22 [false] (ZOg a b fs) []=
 some (tr [1,5] [!A.lt 40 (A.int (A.lenA fs))],
  ZjB (a) (b) (fs) (0)):=by kernel_rfl
theorem ZLH(A:Ar)(a b:Int)(fs:List AV)(n0:Int):Zaz A tab BOf 28 [true,true] 20 (Zer a b fs n0) (ZdI a b fs n0)=
 some (tr [3,3,1,3,4] [A.not (A.eq (ZdP a b ((A.nthA fs (A.nat n0)).cellAt 0).toI ((A.nthA fs (A.nat n0)).cellAt 1).toI ((A.nthA fs (A.nat n0)).cellAt 2).toI ((A.nthA fs (A.nat n0)).cellAt 3).toIs) 0),decide ((-1000000≤a∧a≤1000000)∧ -1000000≤b∧b≤1000000),Zab (Zab (A.le 0 n0) (Nat.blt (A.nat n0) (A.lenA fs))) true,A.lt n0 (A.int (A.lenA fs))],
  AV.int .i64 (ZdP a b ((A.nthA fs (A.nat n0)).cellAt 0).toI ((A.nthA fs (A.nat n0)).cellAt 1).toI ((A.nthA fs (A.nat n0)).cellAt 2).toI ((A.nthA fs (A.nat n0)).cellAt 3).toIs),none):=by kernel_rfl
theorem ZLe(A:Ar)(a b:Int)(fs:List AV)(n0:Int):Zad A tab BOf 31 [true,false] (Zer a b fs n0) (ZdI a b fs n0)=
 some (tr [1,1,3,1,3,4] [A.inR .i64 (A.add n0 1),!A.not (A.eq (ZdP a b ((A.nthA fs (A.nat n0)).cellAt 0).toI ((A.nthA fs (A.nat n0)).cellAt 1).toI ((A.nthA fs (A.nat n0)).cellAt 2).toI ((A.nthA fs (A.nat n0)).cellAt 3).toIs) 0),decide ((-1000000≤a∧a≤1000000)∧ -1000000≤b∧b≤1000000),Zab (Zab (A.le 0 n0) (Nat.blt (A.nat n0) (A.lenA fs))) true,A.lt n0 (A.int (A.lenA fs))],
  ZjB (a) (b) (fs) (A.add n0 1)):=by kernel_rfl
theorem ZMO(A:Ar)(a b:Int)(fs:List AV)(n0:Int):Zaz A tab BOf 16 [false] 20 (Zer a b fs n0) (ZdI a b fs n0)=
 some (tr [2,4] [!A.lt n0 (A.int (A.lenA fs))],
  AV.int .i64 0,none):=by kernel_rfl
end Go.Proofs.Ytjhdnpmojhkbjaa
/- Contracts as a list. No condition. -/
namespace Go.Proofs.Ytjhdnpmojhkbjaa
def frE(a b:Int)(x:AV):Int:=ZdP a b (AV.toI (AV.cellAt x 0)) (AV.toI (AV.cellAt x 1)) (AV.toI (AV.cellAt x 2)) (AV.toIs (AV.cellAt x 3))
def ZkM(a b:Int):List AV→Int
 |[]=>0
 |f::fs=>if frE a b f=0 then ZkM a b fs else frE a b f
def ZJH(a b:Int):Bool:=decide ((-1000000≤a∧a≤1000000)∧ -1000000≤b∧b≤1000000)
theorem Ztz{C:Ctx}(hC:C.P=Try.prog)(a b:Int)(fs:List AV)(hl:fs.length≤1000000)(hr:(-1000000≤a∧a≤1000000)∧ -1000000≤b∧b≤1000000):∀(d i:Nat),fs.length-i=d→i≤fs.length→
 Ev C (Zer a b fs i) (ZdI a b fs i) (ZdV 20 (.int .i64 (ZkM a b (fs.drop i))) none):=by
 intro d
 induction d with
 |zero=>
  intro i hd' hi
  exact fin hC Zha (ZMO std a b fs i) (by simp;omega) (by rw[List.drop_of_length_le (by omega)];rfl) rfl
 |succ d ih=>
  intro i hd' hi
  have hlt:i<fs.length:=by omega
  have hg:fs.getD i .top=fs[i]:=by simp[hlt]
  rw[List.drop_eq_getElem_cons hlt,ZkM]
  by_cases h:frE a b fs[i]=0
  ·rw[if_pos h]
   have h':=h
   unfold frE at h'
   have hw:=ZLe std a b fs i
   simp only[ZaC,Zar,Int.toNat_natCast,hg,h']at hw
   exact go hC Zha hw (by simp[hlt,hr];omega) (ih (i+1) (by omega) (by omega))
  ·rw[if_neg h]
   have h':=h
   unfold frE at h'
   have hw:=ZLH std a b fs i
   simp only[ZaC,Zar,Int.toNat_natCast,hg]at hw
   exact fin hC Zha hw (by simp[hlt,hr,h']) rfl rfl
def Zqc(a b:Int)(fs:List AV):Int:=if 40<fs.length then 8 else ZkM a b fs
theorem Zuc(a b:Int)(fs:List AV)(hl:fs.length≤1000000)(hr:ZJH a b=true):ZaH Try.prog 20 [.agg (.gen [.int .i64 a, .int .i64 b]), .list (.big Zg8 fs)] (.int .i64 (Zqc a b fs)) none:=
 start (ZzQ a b fs) fun C hC=>by
  have hr:=of_decide_eq_true hr
  unfold Zqc
  by_cases h:40<fs.length
  ·rw[if_pos h]
   exact fin hC Zha (ZKx std a b fs) (by simp;omega) rfl rfl
  ·rw[if_neg h]
   exact go hC Zha (ZNz std a b fs) (by simp;omega) (Ztz hC a b fs hl hr fs.length 0 (by omega) (by omega))
def Zy2(a b:Int)(fs:List AV):Bool:=decide (fs.length≤1000000)&&ZJH a b
theorem ZqG(a b:Int)(fs:List AV)(h:Zy2 a b fs=true):ZaH Try.prog 20 [.agg (.gen [.int .i64 a, .int .i64 b]), .list (.big Zg8 fs)] (.int .i64 (Zqc a b fs)) none:=by
 unfold Zy2 at h
 simp only[Bool.and_eq_true,decide_eq_true_eq]at h
 exact Zuc a b fs h.1 h.2
def Zi1(xs:List AV):Int:=if xs.length=0 then 0 else Zav (xs.getD (xs.length-1) .top)-Zav (xs.getD 0 .top)+1
def ZpH(xs:List AV):Bool:=decide (xs.length≤1000000)&&decide (-1000000≤Zav (xs.getD (xs.length-1) .top)∧Zav (xs.getD (xs.length-1) .top)≤1000000∧ -1000000≤Zav (xs.getD 0 .top)∧Zav (xs.getD 0 .top)≤1000000)
theorem ZyI(xs:List AV)(h:ZpH xs=true):ZaH Try.prog 112 [.list (.big shN xs)] (.int .i64 (Zi1 xs)) none:=
 start (ZuE xs) fun C hC=>by
  unfold ZpH at h
  simp only[Bool.and_eq_true,decide_eq_true_eq]at h
  unfold Zi1
  by_cases h0:xs.length=0
  ·rw[if_pos h0]
   exact fin hC Zha (ZIw std xs) (by simp[h0]) rfl rfl
  ·rw[if_neg h0]
   have e:((xs.length:Int)-1).toNat=xs.length-1:=by omega
   have hw:=ZJf std xs
   simp only[ZaC,Zar,ZaW,ZcZ,Zhp,ZbT,e,show Int.toNat 0=0 from rfl]at hw
   rw[show (AV.cellAt (xs.getD (xs.length-1) .top) 4).toI=Zav (xs.getD (xs.length-1) .top)from rfl,show(AV.cellAt (xs.getD 0 .top) 4).toI=Zav (xs.getD 0 .top)from rfl]at hw
   generalize Zav (xs.getD (xs.length-1) .top)=u at*
   generalize Zav (xs.getD 0 .top)=v at*
   refine fin hC Zha hw ?_ rfl rfl
   have:xs≠[]:=fun e=>h0 (by rw[e];rfl)
   simp[this]
   omega
def k20:Ctr:=⟨20,0,fun _ a=>match a with |[.agg (.gen [.int .i64 a, .int .i64 b]), .list (.big (.agg [.int .i64, .int .i64, .int .i64, .ints .i64]) fs)]=>some (decide (Zy2 a b fs=true), .int .i64 (Zqc a b fs),none) |_=>none⟩
theorem ZJx:k20.OK Try.prog:=fun pa args r fr h=>by
 simp only[k20]at h
 split at h
 ·simp only[Option.some.injEq,Prod.mk.injEq,decide_eq_true_eq]at h
  obtain⟨h0,rfl,rfl⟩:=h
  exact ZqG _ _ _ h0
 ·cases h
def k112:Ctr:=⟨112,0,fun _ a=>match a with |[.list (.big (.agg [.int .i64, .int .i64, .int .i64, .ints .i64, .int .i64]) xs)]=>some (decide (ZpH xs=true), .int .i64 (Zi1 xs),none) |_=>none⟩
theorem ZAy:k112.OK Try.prog:=fun pa args r fr h=>by
 simp only[k112]at h
 split at h
 ·simp only[Option.some.injEq,Prod.mk.injEq,decide_eq_true_eq]at h
  obtain⟨h0,rfl,rfl⟩:=h
  exact ZyI _ h0
 ·cases h
def BOg:List Ctr:=[k20,k112]++BOf
theorem ZE2:Zap Try.prog BOg:=⟨ZJx,⟨ZAy,Zha⟩⟩
end Go.Proofs.Ytjhdnpmojhkbjaa
/- Contracts as a list. No condition. -/
namespace Go.Proofs.Ytjhdnpmojhkbjaa
def BOh:List Ctr:=BOg
theorem ZC5:Zap Try.prog BOh:=ZE2
end Go.Proofs.Ytjhdnpmojhkbjaa
/- The contracts of both lines together. No condition. -/
namespace Go.Proofs.Ytjhdnpmojhkbjaa
def BOi:List Ctr:=BOh
theorem ZEl:Zap Try.prog BOi:=ZC5
end Go.Proofs.Ytjhdnpmojhkbjaa
/- Contracts as a list. No condition. -/
namespace Go.Proofs.Ytjhdnpmojhkbjaa
def BOj:List Ctr:=BOi
theorem Zd9:Zap Try.prog BOj:=ZEl
end Go.Proofs.Ytjhdnpmojhkbjaa
/- Paths of functions, printed by the explorer (Gx). No condition. -/
namespace Go.Proofs.Ytjhdnpmojhkbjaa
set_option maxRecDepth 100000
set_option linter.unusedVariables false
def ZvP(xs:List AV):AFrame:={ fn:=121,N:=66,env:=[(0,AV.row 0 0),(1,AV.fn 122 [])],todo:=[.code a121.code],defs:=[],rnd:=none,ret:=false,res:=[ARes.tmp 4] }
def Zug(xs:List AV):List AFrame:=[(ZvP xs)]
theorem Zn5(xs:List AV):Zak tab 121 [AV.row 0 0,AV.fn 122 []]=some (ZvP xs):=rfl
def Zob(xs:List AV):Zaa:=[(0,{ base:=0,blks:=[Blk.row 140 5 (Row.big (Sh.agg [Sh.int .i64,Sh.int .i64,Sh.int .i64,Sh.ints .i64,Sh.int .i64]) xs)] })]
def Zb3(xs:List AV)(n0:Int):List AFrame:=[{ fn:=121,N:=66,env:=[(0,AV.row 0 0),(1,AV.fn 122 []),(5,AV.int .i64 n0)],todo:=.code (ACode.gh [] ZvI)::ZGp,defs:=[],rnd:=none,ret:=false,res:=[ARes.tmp 4] }]
def ZbJ(xs:List AV)(n0:Int):Zaa:=[(0,{ base:=0,blks:=[Blk.row 140 5 (Row.big (Sh.agg [Sh.int .i64,Sh.int .i64,Sh.int .i64,Sh.ints .i64,Sh.int .i64]) xs)] })]
abbrev Zhd(xs:List AV)(n0:Int):List AFrame×Zaa:=(Zb3 xs n0,ZbJ xs n0)
def Zc8(j1 j2:Nat)(n3 n4:Int)(x5:List AV):List AFrame:=[{ fn:=121,N:=66,env:=[(0,AV.row 0 0),(1,AV.fn 122 []),(5,AV.int .i64 n3),(6,AV.slc 0 0 j1 j2 none),(7,AV.int .i64 n4)],todo:=.code (ACode.gh [] Zvj)::ZGs,defs:=[],rnd:=none,ret:=false,res:=[ARes.tmp 4] }]
def Zcf(j1:Nat)(j2:Nat)(n3:Int)(n4:Int)(x5:List AV):Zaa:=[(0,{ base:=0,blks:=[Blk.row 140 5 (Row.big (Sh.agg [Sh.int .i64,Sh.int .i64,Sh.int .i64,Sh.ints .i64,Sh.int .i64]) x5)] })]
abbrev ZeO(j1:Nat)(j2:Nat)(n3:Int)(n4:Int)(x5:List AV):List AFrame×Zaa:=(Zc8 j1 j2 n3 n4 x5,Zcf j1 j2 n3 n4 x5)
theorem ZwW(A:Ar)(xs:List AV):ZaY A tab BOj 18 [true] 121 (Zug xs) (Zob xs)=
 some (tr [3,4] [A.lt (A.int (A.lenA xs)) 2],
  AV.row 0 0,140,5,Row.big (.agg [.int .i64, .int .i64, .int .i64, .ints .i64, .int .i64]) xs):=by kernel_rfl
theorem Zwl(A:Ar)(xs:List AV):Zad A tab BOj 21 [false] (Zug xs) (Zob xs)=
 some (tr [1,4] [!A.lt (A.int (A.lenA xs)) 2],
  Zhd (xs) (1)):=by kernel_rfl
theorem ZFN(A:Ar)(xs:List AV)(n0:Int):Zad A tab BOj 32 [true,true] (Zb3 xs n0) (ZbJ xs n0)=
 some (tr [2,2,1,0,0,2,0,3,4] [Zab (Zab (A.le 0 n0) true) (Zab (Zab (Nat.ble (A.nat n0) (A.lenA xs)) (Nat.ble (A.lenA xs) (A.lenA xs))) true),Zgg ((A.nthA xs (A.nat n0)).cellAt 4).toI ((A.nthA xs (A.nat (A.sub n0 1))).cellAt 4).toI,Zab (Nat.blt (A.nat (A.sub n0 1)) (A.lenA xs)) true,Zab (A.le 0 (A.sub n0 1)) (Nat.blt (A.nat (A.sub n0 1)) (A.lenA xs)),A.inR .i64 (A.sub n0 1),Zab (Nat.blt (A.nat n0) (A.lenA xs)) true,Zab (A.le 0 n0) (Nat.blt (A.nat n0) (A.lenA xs)),A.lt n0 (A.int (A.lenA xs))],
  ZeO (A.nat n0) (A.lenA xs-A.nat n0) (n0) (1) (xs)):=by kernel_rfl
theorem Zvx(A:Ar)(xs:List AV)(n0:Int):Zad A tab BOj 26 [true,false] (Zb3 xs n0) (ZbJ xs n0)=
 some (tr [1,1,1,0,0,2,0,3,4] [A.inR .i64 (A.add n0 1),!Zgg ((A.nthA xs (A.nat n0)).cellAt 4).toI ((A.nthA xs (A.nat (A.sub n0 1))).cellAt 4).toI,Zab (Nat.blt (A.nat (A.sub n0 1)) (A.lenA xs)) true,Zab (A.le 0 (A.sub n0 1)) (Nat.blt (A.nat (A.sub n0 1)) (A.lenA xs)),A.inR .i64 (A.sub n0 1),Zab (Nat.blt (A.nat n0) (A.lenA xs)) true,Zab (A.le 0 n0) (Nat.blt (A.nat n0) (A.lenA xs)),A.lt n0 (A.int (A.lenA xs))],
  Zhd (xs) (A.add n0 1)):=by kernel_rfl
theorem ZGG(A:Ar)(xs:List AV)(n0:Int):ZaY A tab BOj 17 [false] 121 (Zb3 xs n0) (ZbJ xs n0)=
 some (tr [3,4] [!A.lt n0 (A.int (A.lenA xs))],
  AV.row 0 0,140,5,Row.big (.agg [.int .i64, .int .i64, .int .i64, .ints .i64, .int .i64]) xs):=by kernel_rfl
theorem ZD5(A:Ar)(j1 j2:Nat)(n3 n4:Int)(x5:List AV):Zad A tab BOj 42 [true,true] (Zc8 j1 j2 n3 n4 x5) (Zcf j1 j2 n3 n4 x5)=
 some (tr [1,2,1,0,0,0,4,2,0,0,2,0,3,1,2] [A.inR .i64 (A.add n4 1),A.inR .i64 (A.add n3 1),Zab (Nat.blt (A.nat n3) (A.lenA x5)) true,Zab (A.le 0 n3) (Nat.blt (A.nat n3) (A.lenA x5)),Zab (Nat.blt (j1+A.nat n4) (A.lenA x5)) true,Zab (A.le 0 n4) (Nat.blt (A.nat n4) j2),A.not (Zgg ((A.nthA x5 (j1+A.nat n4)).cellAt 4).toI ((A.nthA x5 (j1+A.nat (A.sub n4 1))).cellAt 4).toI),Zab (Nat.blt (j1+A.nat (A.sub n4 1)) (A.lenA x5)) true,Zab (A.le 0 (A.sub n4 1)) (Nat.blt (A.nat (A.sub n4 1)) j2),A.inR .i64 (A.sub n4 1),Zab (Nat.blt (j1+A.nat n4) (A.lenA x5)) true,Zab (A.le 0 n4) (Nat.blt (A.nat n4) j2),A.lt n4 (A.int (A.lenA (A.subA x5 j1 j2))),Nat.ble (j1+j2) (A.lenA x5)],
  ZeO (j1) (j2) (A.add n3 1) (A.add n4 1) (A.setA x5 (A.nat n3) (AV.agg (Row.gen [.int .i64 ((A.nthA x5 (j1+A.nat n4)).cellAt 0).toI, .int .i64 ((A.nthA x5 (j1+A.nat n4)).cellAt 1).toI, .int .i64 ((A.nthA x5 (j1+A.nat n4)).cellAt 2).toI, .list (.ints .i64 ((A.nthA x5 (j1+A.nat n4)).cellAt 3).toIs), .int .i64 ((A.nthA x5 (j1+A.nat n4)).cellAt 4).toI])))):=by kernel_rfl
theorem ZFu(A:Ar)(j1 j2:Nat)(n3 n4:Int)(x5:List AV):Zad A tab BOj 26 [true,false] (Zc8 j1 j2 n3 n4 x5) (Zcf j1 j2 n3 n4 x5)=
 some (tr [1,1,2,0,0,2,0,3,1,2] [A.inR .i64 (A.add n4 1),!A.not (Zgg ((A.nthA x5 (j1+A.nat n4)).cellAt 4).toI ((A.nthA x5 (j1+A.nat (A.sub n4 1))).cellAt 4).toI),Zab (Nat.blt (j1+A.nat (A.sub n4 1)) (A.lenA x5)) true,Zab (A.le 0 (A.sub n4 1)) (Nat.blt (A.nat (A.sub n4 1)) j2),A.inR .i64 (A.sub n4 1),Zab (Nat.blt (j1+A.nat n4) (A.lenA x5)) true,Zab (A.le 0 n4) (Nat.blt (A.nat n4) j2),A.lt n4 (A.int (A.lenA (A.subA x5 j1 j2))),Nat.ble (j1+j2) (A.lenA x5)],
  ZeO (j1) (j2) (n3) (A.add n4 1) (x5)):=by kernel_rfl
theorem ZD4(A:Ar)(j1 j2:Nat)(n3 n4:Int)(x5:List AV):ZaY A tab BOj 26 [false] 121 (Zc8 j1 j2 n3 n4 x5) (Zcf j1 j2 n3 n4 x5)=
 some (tr [2,2,0,2,1,2] [Zab (A.le 0 n3) (Zab (Zab (Nat.ble 0 (A.nat n3)) (Nat.ble (A.nat n3) (A.lenA (A.appA (A.appA (A.subA x5 0 (A.nat n3)) (A.repA (A.lenA x5-A.nat n3) (AV.agg (Row.gen [.int .i64 0, .int .i64 0, .int .i64 0, .list (.ints .i64 []), .int .i64 0])))) (A.subA x5 (A.nat n3+A.lenA (A.repA (A.lenA x5-A.nat n3) (AV.agg (Row.gen [.int .i64 0, .int .i64 0, .int .i64 0, .list (.ints .i64 []), .int .i64 0])))) (A.lenA x5)))))) true),Nat.ble (A.nat n3+(A.lenA x5-A.nat n3)) (A.lenA x5),Zab (Zab (A.le 0 n3) true) (Zab (Zab (Nat.ble (A.nat n3) (A.lenA x5)) (Nat.ble (A.lenA x5) (A.lenA x5))) true),!A.lt n4 (A.int (A.lenA (A.subA x5 j1 j2))),Nat.ble (j1+j2) (A.lenA x5)],
  AV.slc 0 0 0 (A.nat n3-0) none,140,5,Row.big (.agg [.int .i64, .int .i64, .int .i64, .ints .i64, .int .i64]) (A.appA (A.appA (A.subA x5 0 (A.nat n3)) (A.repA (A.lenA x5-A.nat n3) (AV.agg (Row.gen [.int .i64 0, .int .i64 0, .int .i64 0, .list (.ints .i64 []), .int .i64 0])))) (A.subA x5 (A.nat n3+A.lenA (A.repA (A.lenA x5-A.nat n3) (AV.agg (Row.gen [.int .i64 0, .int .i64 0, .int .i64 0, .list (.ints .i64 []), .int .i64 0])))) (A.lenA x5)))):=by kernel_rfl
end Go.Proofs.Ytjhdnpmojhkbjaa
/- Contracts as a list. No condition. -/
namespace Go.Proofs.Ytjhdnpmojhkbjaa
theorem Zsn{P:Program}{f:FuncId}{e:TypeId}{sz n:Nat}{x y:Row}{args:List AV}(h:Zmo P f e sz x y args (.row 0 0))(hn:n=y.elems.length):Zmo P f e sz x y args (.slc 0 0 0 n none):=by
 subst hn
 intro w okA L vs hok H hr
 refine(h w okA L vs hok H hr).mono ?_
 rintro e' w' ⟨v,L',rfl,hF,H2,rr⟩
 refine⟨v,L',rfl,hF,H2,?_⟩
 cases rr with
 |row _ _ g o n c hn hl=>
  have ht:(blk (Zaj (some ⟨e,sz,y⟩)) 0 0).tag=some (sz,y.elems.length):=rfl
  obtain⟨rfl,rfl,rfl,rfl⟩:=hl.2 _ ht
  exact .slc 0 0 0 _ none _ _ _ hn ⟨hl.1,fun s hs=>.inr ⟨rfl,by simp,by simp,by simp⟩⟩
def zN:AV:=AV.agg (Row.gen [AV.int .i64 0,AV.int .i64 0,AV.int .i64 0,AV.list (.ints .i64 []),AV.int .i64 0])
def cpZ(xs:List AV):List AV:=cpN xs++List.replicate (xs.length-(cpN xs).length) zN
theorem ZmG:∀(l:List AV) (p:AV),(cpA p l).length≤l.length
 |[],_=>Nat.le_refl _
 |y::l,p=>by
  unfold cpA
  have:=ZmG l y
  split<;>simp<;>omega
theorem Zrp(l:List AV):(cpN l).length≤l.length:=by
 cases l with
 |nil=>exact Nat.le_refl _
 |cons x l=>simp only[cpN,List.length_cons];have:=ZmG l x;omega
theorem ZHr(n:Nat)(v:AV):std.repA n v=List.replicate n v:=rfl
theorem ZHI(X:List AV)(k:Nat):sub3 X 0 k++List.replicate (X.length-k) zN++sub3 X (k+(List.replicate (X.length-k) zN).length) X.length=X.take k++List.replicate (X.length-k) zN:=by
 have h1:sub3 X 0 k=X.take k:=by simp[sub3]
 have h2:sub3 X (k+(List.replicate (X.length-k) zN).length) X.length=[]:=by
  unfold sub3
  rw[List.length_replicate,List.drop_of_length_le (by omega),List.take_nil]
 rw[h1,h2,List.append_nil]
section
variable {C:Ctx}(hC:C.P=Try.prog)(xs:List AV)(hL:xs.length<1000000)(hn:ZaK xs=true)
include hC hL hn
theorem ZMz(j1:Nat):∀(d m k:Nat) (X:List AV),xs.length-(j1+m)=d→1≤m→j1+m≤xs.length→j1≤k→k+1≤j1+m→X.length=xs.length→(∀t,j1+m≤t+1→X.getD t .top=xs.getD t .top)→
 X.take k++cpA (xs.getD (j1+m-1) .top) (xs.drop (j1+m))=cpN xs→
 Ev C (Zc8 j1 (xs.length-j1) k m X) (Zcf j1 (xs.length-j1) k m X) (Zh1 121 140 5 (.big shN (cpZ xs)) (.slc 0 0 0 (cpN xs).length none)):=by
 intro d
 induction d with
 |zero=>
  intro m k X hd hm hjm hk hkm hX hg hinv
  have hjl:j1+m=xs.length:=by omega
  rw[List.drop_of_length_le (by omega),cpA,List.append_nil]at hinv
  have hkl:(cpN xs).length=k:=by rw[←hinv,List.length_take];omega
  have hw:=ZD4 std j1 (xs.length-j1) k m X
  simp only[ZaC,Zc6,ZHr,Zhp,Zql,ZvW,Int.toNat_natCast]at hw
  rw[show (AV.agg (Row.gen [AV.int .i64 0,AV.int .i64 0,AV.int .i64 0,AV.list (.ints .i64 []),AV.int .i64 0]))=zN from rfl,show std.subA=sub3 from rfl,ZHI X k]at hw
  refine Zd7 hC Zd9 hw ?_ (by rw[hkl];rfl) rfl rfl (by rw[hinv,←hkl,hX];rfl)
  simp[hX,sub3]
  omega
 |succ d ih=>
  intro m k X hd hm hjm hk hkm hX hg hinv
  have hlt:j1+m<xs.length:=by omega
  have g1:X.getD (j1+m) .top=xs.getD (j1+m) .top:=hg _ (by omega)
  have g2:X.getD (j1+(m-1)) .top=xs.getD (j1+m-1) .top:=by
   rw[show j1+(m-1)=j1+m-1 by omega];exact hg _ (by omega)
  have g3:xs.getD (j1+m) .top=xs[j1+m]:=by simp[hlt]
  have e1:(std.sub (m:Int) 1).toNat=m-1:=by simp
  have e2:std.add (m:Int) 1=((m+1:Nat):Int):=by simp
  have e3:std.add (k:Int) 1=((k+1:Nat):Int):=by simp
  have hv:=ZdR hn hlt
  rw[List.drop_eq_getElem_cons hlt,cpA]at hinv
  rw[←g3]at hinv
  have hidx:j1+(m+1)-1=j1+m:=by omega
  by_cases hs:Zav (xs.getD (j1+m) .top)=Zav (xs.getD (j1+m-1) .top)
  ·rw[if_pos hs]at hinv
   have hw:=ZFu std j1 (xs.length-j1) k m X
   simp only[ZaC,Zar,Zql,Int.toNat_natCast,e1,e2]at hw
   simp only[g1,g2]at hw
   have hsm:Zgg (Zav (xs.getD (j1+m) .top)) (Zav (xs.getD (j1+m-1) .top))=true:=decide_eq_true hs
   have hsm':Zgg (AV.toI (AV.cellAt (xs.getD (j1+m) .top) 4)) (AV.toI (AV.cellAt (xs.getD (j1+m-1) .top) 4))=true:=hsm
   rw[hsm']at hw
   refine go hC Zd9 hw ?_ (ih (m+1) k X (by omega) (by omega) (by omega) hk (by omega) hX (fun t ht=>hg t (by omega)) ?_)
   ·simp[hX];omega
   ·rw[hidx];exact hinv
  ·rw[if_neg hs]at hinv
   have hw:=ZD5 std j1 (xs.length-j1) k m X
   simp only[ZaC,Zar,ZjR,Zql,Int.toNat_natCast,e1,e2,e3]at hw
   simp only[g1,g2]at hw
   have hsm:Zgg (Zav (xs.getD (j1+m) .top)) (Zav (xs.getD (j1+m-1) .top))=false:=decide_eq_false hs
   have hsm':Zgg (AV.toI (AV.cellAt (xs.getD (j1+m) .top) 4)) (AV.toI (AV.cellAt (xs.getD (j1+m-1) .top) 4))=false:=hsm
   rw[hsm']at hw
   rw[show (AV.agg (Row.gen [AV.int .i64 (AV.toI (AV.cellAt (xs.getD (j1+m) .top) 0)),AV.int .i64 (AV.toI (AV.cellAt (xs.getD (j1+m) .top) 1)),AV.int .i64 (AV.toI (AV.cellAt (xs.getD (j1+m) .top) 2)),AV.list (.ints .i64 (AV.toIs (AV.cellAt (xs.getD (j1+m) .top) 3))),AV.int .i64 (AV.toI (AV.cellAt (xs.getD (j1+m) .top) 4))]))=xs.getD (j1+m) .top from hv]at hw
   refine go hC Zd9 hw ?_ (ih (m+1) (k+1) _ (by omega) (by omega) (by omega) (by omega) (by omega) (by rw[List.length_set];exact hX) (fun t ht=>?_) ?_)
   ·simp[hX];omega
   ·rw[List.getD_eq_getElem?_getD,List.getElem?_set_ne (by omega),←List.getD_eq_getElem?_getD]
    exact hg t (by omega)
   ·rw[hidx,←hinv,List.take_set,List.take_succ_eq_append_getElem (by omega:k<X.length)]
    rw[List.set_append_right _ _ (by rw[List.length_take];omega),List.length_take,Nat.min_eq_left (by omega),Nat.sub_self]
    simp[Nat.add_assoc]
theorem Zyk(hp:cpN xs≠xs):∀(d i:Nat),xs.length-i=d→1≤i→i≤xs.length→xs.take i++cpA (xs.getD (i-1) .top) (xs.drop i)=cpN xs→
 Ev C (Zb3 xs i) (ZbJ xs i) (Zh1 121 140 5 (.big shN (cpZ xs)) (.slc 0 0 0 (cpN xs).length none)):=by
 intro d
 induction d with
 |zero=>
  intro i hd h1 hi hinv
  rw[List.drop_of_length_le (by omega),cpA,List.append_nil,List.take_of_length_le (by omega)]at hinv
  exact absurd hinv.symm hp
 |succ d ih=>
  intro i hd h1 hi hinv
  have hlt:i<xs.length:=by omega
  have g3:xs.getD i .top=xs[i]:=by simp[hlt]
  have e1:(std.sub (i:Int) 1).toNat=i-1:=by simp
  have e2:std.add (i:Int) 1=((i+1:Nat):Int):=by simp
  rw[List.drop_eq_getElem_cons hlt,cpA,←g3]at hinv
  by_cases hs:Zav (xs.getD i .top)=Zav (xs.getD (i-1) .top)
  ·rw[if_pos hs]at hinv
   have hw:=ZFN std xs i
   simp only[ZaC,Zar,Int.toNat_natCast,e1,ZvW,Zhp]at hw
   have hsm:Zgg (AV.toI (AV.cellAt (xs.getD i .top) 4)) (AV.toI (AV.cellAt (xs.getD (i-1) .top) 4))=true:=decide_eq_true hs
   rw[hsm]at hw
   refine go hC Zd9 hw (by simp;omega) ?_
   exact ZMz hC xs hL hn i _ 1 i xs rfl (Nat.le_refl _) (by omega) (Nat.le_refl _) (by omega) rfl (fun _ _=>rfl) (by rw[Nat.add_sub_cancel];exact hinv)
  ·rw[if_neg hs]at hinv
   have hw:=Zvx std xs i
   simp only[ZaC,Zar,Int.toNat_natCast,e1,e2]at hw
   have hsm:Zgg (AV.toI (AV.cellAt (xs.getD i .top) 4)) (AV.toI (AV.cellAt (xs.getD (i-1) .top) 4))=false:=decide_eq_false hs
   rw[hsm]at hw
   refine go hC Zd9 hw (by simp;omega) (ih (i+1) (by omega) (by omega) (by omega) ?_)
   rw[Nat.add_sub_cancel,←hinv,List.take_succ_eq_append_getElem hlt,←g3,List.append_assoc]
   rfl
theorem Zzj(hp:cpN xs≠xs):Ev C (Zug xs) (Zob xs) (Zh1 121 140 5 (.big shN (cpZ xs)) (.slc 0 0 0 (cpN xs).length none)):=by
 match xs,hL,hn,hp with
 |[],_,_,hp=>exact absurd rfl hp
 |[x],_,_,hp=>exact absurd rfl hp
 |x::y::l,hL,hn,hp=>
  refine go hC Zd9 (Zwl std (x::y::l)) (by simp;omega) ?_
  exact Zyk hC (x::y::l) hL hn hp _ 1 rfl (Nat.le_refl _) (by simp) rfl
end
section
variable {C:Ctx}(hC:C.P=Try.prog)(xs:List AV)(hL:xs.length<1000000)
include hC hL
theorem ZAS:∀(d i:Nat),xs.length-i=d→1≤i→i≤xs.length→cpA (xs.getD (i-1) .top) (xs.drop i)=xs.drop i→
 Ev C (Zb3 xs i) (ZbJ xs i) (Zh1 121 140 5 (.big shN xs) (.row 0 0)):=by
 intro d
 induction d with
 |zero=>
  intro i hd h1 hi _
  exact Zd7 hC Zd9 (ZGG std xs i) (by simp;omega) rfl rfl rfl rfl
 |succ d ih=>
  intro i hd h1 hi hinv
  have hlt:i<xs.length:=by omega
  have g3:xs.getD i .top=xs[i]:=by simp[hlt]
  rw[List.drop_eq_getElem_cons hlt,cpA,←g3]at hinv
  have hs:¬Zav (xs.getD i .top)=Zav (xs.getD (i-1) .top):=fun hs=>by
   rw[if_pos hs]at hinv
   have:=ZmG (xs.drop (i+1)) (xs.getD i .top)
   rw[hinv,List.length_cons]at this
   omega
  rw[if_neg hs]at hinv
  have e1:(std.sub (i:Int) 1).toNat=i-1:=by simp
  have e2:std.add (i:Int) 1=((i+1:Nat):Int):=by simp
  have hw:=Zvx std xs i
  simp only[ZaC,Zar,Int.toNat_natCast,e1,e2]at hw
  have hsm:Zgg (AV.toI (AV.cellAt (xs.getD i .top) 4)) (AV.toI (AV.cellAt (xs.getD (i-1) .top) 4))=false:=decide_eq_false hs
  rw[hsm]at hw
  exact go hC Zd9 hw (by simp;omega) (ih (i+1) (by omega) (by omega) (by omega) (by rw[Nat.add_sub_cancel];exact(List.cons.inj hinv).2))
theorem ZGj(hp:cpN xs=xs):Ev C (Zug xs) (Zob xs) (Zh1 121 140 5 (.big shN xs) (.row 0 0)):=by
 match xs,hL,hp with
 |[],_,_=>exact Zd7 hC Zd9 (ZwW std []) (by simp) rfl rfl rfl rfl
 |[x],_,_=>exact Zd7 hC Zd9 (ZwW std [x]) (by simp) rfl rfl rfl rfl
 |x::y::l,hL,hp=>
  refine go hC Zd9 (Zwl std (x::y::l)) (by simp;omega) ?_
  exact ZAS hC (x::y::l) hL _ 1 rfl (Nat.le_refl _) (by simp) (List.cons.inj hp).2
end
theorem ZpN(xs:List AV)(hL:xs.length<1000000)(hn:ZaK xs=true):Zmo Try.prog 121 140 5 (.big shN xs) (.big shN (cpZ xs)) [.fn 122 []] (.slc 0 0 0 (cpN xs).length none):=by
 by_cases hp:cpN xs=xs
 ·have e:cpZ xs=xs:=by unfold cpZ;rw[hp];simp
  rw[e,hp]
  exact Zsn (Zhm (Zn5 xs) fun C hC=>ZGj hC xs hL hp) (by simp[Row.elems])
 ·exact Zhm (Zn5 xs) fun C hC=>Zzj hC xs hL hn hp
theorem ZpC(xs:List AV)(h:soB xs=true):ZiT Try.prog 1000121 [.list (.big shN xs), .fn 122 []] (.slc 0 0 0 (cpN xs).length none) (some ⟨140,5, .big shN (cpZ xs)⟩):=by
 unfold soB at h
 simp only[Bool.and_eq_true,decide_eq_true_eq]at h
 exact ZcX (f:=121) rfl (ZpN xs (by omega) h.2)
def cpL(xs:List AV):Nat:=(cpN xs).length
theorem Zvm(xs:List AV):cpL xs=(cpN xs).length:=rfl
attribute [irreducible] cpZ cpL
def k121:Ctr:=⟨1000121,0,fun _ a=>match a with |[.list (.big (.agg [.int .i64, .int .i64, .int .i64, .ints .i64, .int .i64]) xs), .fn 122 []]=>some (decide (soB xs=true), .slc 0 0 0 (cpL xs) none,some ⟨140,5, .big shN (cpZ xs)⟩) |_=>none⟩
theorem ZBL:k121.OK Try.prog:=fun pa args r fr h=>by
 simp only[k121]at h
 split at h
 ·simp only[Option.some.injEq,Prod.mk.injEq,decide_eq_true_eq]at h
  obtain⟨h0,rfl,rfl⟩:=h
  exact(by rw[Zvm];exact ZpC _ h0)
 ·cases h
def BOk:List Ctr:=[k121]++BOj
theorem Zee:Zap Try.prog BOk:=⟨ZBL,Zd9⟩
end Go.Proofs.Ytjhdnpmojhkbjaa
/- Paths of functions, printed by the explorer (Gx). No condition. -/
namespace Go.Proofs.Ytjhdnpmojhkbjaa
set_option maxRecDepth 100000
set_option linter.unusedVariables false
def ZJy(c:Int)(fs:List AV):AFrame:={ fn:=79,N:=60,env:=[(0,AV.int .i64 c),(1,AV.list (Row.big (Sh.agg [Sh.int .i64,Sh.int .i64,Sh.int .i64,Sh.ints .i64]) fs))],todo:=[.code a79.code],defs:=[],rnd:=none,ret:=false,res:=[ARes.tmp 4] }
def ZQe(c:Int)(fs:List AV):List AFrame:=[(ZJy c fs)]
theorem ZsS(c:Int)(fs:List AV):Zak tab 79 [AV.int .i64 c,AV.list (Row.big (Sh.agg [Sh.int .i64,Sh.int .i64,Sh.int .i64,Sh.ints .i64]) fs)]=some (ZJy c fs):=rfl
def ZdA(c:Int)(fs:List AV)(n0 n1:Int):List AFrame:=[{ fn:=79,N:=60,env:=[(0,AV.int .i64 c),(5,AV.nils),(11,AV.list (Row.big (Sh.agg [Sh.int .i64,Sh.int .i64,Sh.int .i64,Sh.ints .i64]) fs)),(12,AV.int .i64 n0),(13,AV.int .i64 n1)],todo:=.code (ACode.gh [] ZAh)::ZD8,defs:=[],rnd:=none,ret:=false,res:=[ARes.tmp 4] }]
def ZcO(c:Int)(fs:List AV)(n0:Int)(n1:Int):Zaa:=[]
abbrev ZjL(c:Int)(fs:List AV)(n0:Int)(n1:Int):List AFrame×Zaa:=(ZdA c fs n0 n1,ZcO c fs n0 n1)
def ZdS(c:Int)(fs:List AV)(n0 n2:Int)(x3:List AV):List AFrame:=[{ fn:=79,N:=60,env:=[(0,AV.int .i64 c),(5,AV.row 79055 0),(11,AV.list (Row.big (Sh.agg [Sh.int .i64,Sh.int .i64,Sh.int .i64,Sh.ints .i64]) fs)),(12,AV.int .i64 n0),(13,AV.int .i64 n2)],todo:=.code (ACode.gh [] ZAh)::ZD8,defs:=[],rnd:=none,ret:=false,res:=[ARes.tmp 4] }]
def ZcH(c:Int)(fs:List AV)(n0:Int)(n2:Int)(x3:List AV):Zaa:=[(79055,{ base:=0,blks:=[Blk.row 140 5 (Row.big (Sh.agg [Sh.int .i64,Sh.int .i64,Sh.int .i64,Sh.ints .i64,Sh.int .i64]) x3)] })]
abbrev ZeZ(c:Int)(fs:List AV)(n0:Int)(n2:Int)(x3:List AV):List AFrame×Zaa:=(ZdS c fs n0 n2 x3,ZcH c fs n0 n2 x3)
theorem ZJk(A:Ar)(c:Int)(fs:List AV):Zad A tab BOk 18 [] (ZQe c fs) []=
 some (tr [5] [],
  ZjL (c) (fs) (A.int (A.lenA fs)) (0)):=by kernel_rfl
theorem ZGQ(A:Ar)(c:Int)(fs:List AV)(n0 n1:Int):Zad A tab BOk 33 [true,true] (ZdA c fs n0 n1) (ZcO c fs n0 n1)=
 some (tr [1,0,7,0,1] [A.inR .i64 (A.add n1 1),A.not (A.eq ((A.nthA fs (A.nat n1)).cellAt 0).toI c),Zab (Zab (A.le 0 n1) (Nat.blt (A.nat n1) (A.lenA fs))) true,A.lt n1 n0],
  ZjL (c) (fs) (n0) (A.add n1 1)):=by kernel_rfl
theorem ZKW(A:Ar)(c:Int)(fs:List AV)(n0 n1:Int):Zad A tab BOk 60 [true,false,false] (ZdA c fs n0 n1) (ZcO c fs n0 n1)=
 some (tr [1,1,0,2,6,3,7,0,1] [A.inR .i64 (A.add n1 1),Zab (Nat.ble (A.lenA [AV.agg (Row.gen [.int .i64 ((A.nthA fs (A.nat n1)).cellAt 0).toI, .int .i64 ((A.nthA fs (A.nat n1)).cellAt 1).toI, .int .i64 ((A.nthA fs (A.nat n1)).cellAt 2).toI, .list (.ints .i64 ((A.nthA fs (A.nat n1)).cellAt 3).toIs), .int .i64 (A.add ((A.nthA fs (A.nat n1)).cellAt 1).toI 64)])]) 4294967296) (Nat.blt 0 (A.lenA [AV.agg (Row.gen [.int .i64 ((A.nthA fs (A.nat n1)).cellAt 0).toI, .int .i64 ((A.nthA fs (A.nat n1)).cellAt 1).toI, .int .i64 ((A.nthA fs (A.nat n1)).cellAt 2).toI, .list (.ints .i64 ((A.nthA fs (A.nat n1)).cellAt 3).toIs), .int .i64 (A.add ((A.nthA fs (A.nat n1)).cellAt 1).toI 64)])])),List.all [AV.agg (Row.gen [.int .i64 ((A.nthA fs (A.nat n1)).cellAt 0).toI, .int .i64 ((A.nthA fs (A.nat n1)).cellAt 1).toI, .int .i64 ((A.nthA fs (A.nat n1)).cellAt 2).toI, .list (.ints .i64 ((A.nthA fs (A.nat n1)).cellAt 3).toIs), .int .i64 (A.add ((A.nthA fs (A.nat n1)).cellAt 1).toI 64)])] fun x=>AV.bx x&&Nat.beq (Zac A x) 5,!A.lt 0 (A.int 0),A.inR .i64 (A.add ((A.nthA fs (A.nat n1)).cellAt 1).toI 64),!A.not (A.eq ((A.nthA fs (A.nat n1)).cellAt 0).toI c),Zab (Zab (A.le 0 n1) (Nat.blt (A.nat n1) (A.lenA fs))) true,A.lt n1 n0],
  ZeZ (c) (fs) (n0) (A.add n1 1) ([AV.agg (Row.gen [.int .i64 ((A.nthA fs (A.nat n1)).cellAt 0).toI, .int .i64 ((A.nthA fs (A.nat n1)).cellAt 1).toI, .int .i64 ((A.nthA fs (A.nat n1)).cellAt 2).toI, .list (.ints .i64 ((A.nthA fs (A.nat n1)).cellAt 3).toIs), .int .i64 (A.add ((A.nthA fs (A.nat n1)).cellAt 1).toI 64)])])):=by kernel_rfl
theorem ZLm(A:Ar)(c:Int)(fs:List AV)(n0 n1:Int):Zaz A tab BOk 20 [false] 79 (ZdA c fs n0 n1) (ZcO c fs n0 n1)=
 some (tr [6,1] [!A.lt n1 n0],
  AV.nils,none):=by kernel_rfl
theorem ZKN(A:Ar)(c:Int)(fs:List AV)(n0 n2:Int)(x3:List AV):Zad A tab BOk 33 [true,true] (ZdS c fs n0 n2 x3) (ZcH c fs n0 n2 x3)=
 some (tr [1,0,7,0,1] [A.inR .i64 (A.add n2 1),A.not (A.eq ((A.nthA fs (A.nat n2)).cellAt 0).toI c),Zab (Zab (A.le 0 n2) (Nat.blt (A.nat n2) (A.lenA fs))) true,A.lt n2 n0],
  ZeZ (c) (fs) (n0) (A.add n2 1) (x3)):=by kernel_rfl
theorem ZMW(A:Ar)(c:Int)(fs:List AV)(n0 n2:Int)(x3:List AV):Zad A tab BOk 102 [true,false,true,true] (ZdS c fs n0 n2 x3) (ZcH c fs n0 n2 x3)=
 some (tr [1,1,0,4,3,1,3,0,0,0,4,1,0,3,6,3,7,0,1] [A.inR .i64 (A.add n2 1),Nat.ble (A.lenA x3+A.lenA [AV.agg (Row.gen [.int .i64 ((A.nthA fs (A.nat n2)).cellAt 0).toI, .int .i64 ((A.nthA fs (A.nat n2)).cellAt 1).toI, .int .i64 ((A.nthA fs (A.nat n2)).cellAt 2).toI, .list (.ints .i64 ((A.nthA fs (A.nat n2)).cellAt 3).toIs), .int .i64 (A.add ((A.nthA x3 (A.nat (A.sub (A.int (A.lenA x3)) 1))).cellAt 4).toI (A.sub (A.rem (A.add (A.rem (A.sub ((A.nthA fs (A.nat n2)).cellAt 1).toI ((A.nthA x3 (A.nat (A.sub (A.int (A.lenA x3)) 1))).cellAt 4).toI) 64) 64) 64) 64))])]) 4294967296,List.all [AV.agg (Row.gen [.int .i64 ((A.nthA fs (A.nat n2)).cellAt 0).toI, .int .i64 ((A.nthA fs (A.nat n2)).cellAt 1).toI, .int .i64 ((A.nthA fs (A.nat n2)).cellAt 2).toI, .list (.ints .i64 ((A.nthA fs (A.nat n2)).cellAt 3).toIs), .int .i64 (A.add ((A.nthA x3 (A.nat (A.sub (A.int (A.lenA x3)) 1))).cellAt 4).toI (A.sub (A.rem (A.add (A.rem (A.sub ((A.nthA fs (A.nat n2)).cellAt 1).toI ((A.nthA x3 (A.nat (A.sub (A.int (A.lenA x3)) 1))).cellAt 4).toI) 64) 64) 64) 64))])] fun x=>AV.bx x&&Nat.beq (Zac A x) 5,A.inR .i64 (A.add ((A.nthA x3 (A.nat (A.sub (A.int (A.lenA x3)) 1))).cellAt 4).toI (A.sub (A.rem (A.add (A.rem (A.sub ((A.nthA fs (A.nat n2)).cellAt 1).toI ((A.nthA x3 (A.nat (A.sub (A.int (A.lenA x3)) 1))).cellAt 4).toI) 64) 64) 64) 64)),A.inR .i64 (A.sub (A.rem (A.add (A.rem (A.sub ((A.nthA fs (A.nat n2)).cellAt 1).toI ((A.nthA x3 (A.nat (A.sub (A.int (A.lenA x3)) 1))).cellAt 4).toI) 64) 64) 64) 64),A.lt 32 (A.rem (A.add (A.rem (A.sub ((A.nthA fs (A.nat n2)).cellAt 1).toI ((A.nthA x3 (A.nat (A.sub (A.int (A.lenA x3)) 1))).cellAt 4).toI) 64) 64) 64),A.not (A.eq 64 0),A.inR .i64 (A.add (A.rem (A.sub ((A.nthA fs (A.nat n2)).cellAt 1).toI ((A.nthA x3 (A.nat (A.sub (A.int (A.lenA x3)) 1))).cellAt 4).toI) 64) 64),A.not (A.eq 64 0),A.inR .i64 (A.sub ((A.nthA fs (A.nat n2)).cellAt 1).toI ((A.nthA x3 (A.nat (A.sub (A.int (A.lenA x3)) 1))).cellAt 4).toI),Zab (Nat.blt (A.nat (A.sub (A.int (A.lenA x3)) 1)) (A.lenA x3)) true,Zab (A.le 0 (A.sub (A.int (A.lenA x3)) 1)) (Nat.blt (A.nat (A.sub (A.int (A.lenA x3)) 1)) (A.lenA x3)),A.inR .i64 (A.sub (A.int (A.lenA x3)) 1),A.lt 0 (A.int (A.lenA x3)),A.inR .i64 (A.add ((A.nthA fs (A.nat n2)).cellAt 1).toI 64),!A.not (A.eq ((A.nthA fs (A.nat n2)).cellAt 0).toI c),Zab (Zab (A.le 0 n2) (Nat.blt (A.nat n2) (A.lenA fs))) true,A.lt n2 n0],
  ZeZ (c) (fs) (n0) (A.add n2 1) (A.appA x3 [AV.agg (Row.gen [.int .i64 ((A.nthA fs (A.nat n2)).cellAt 0).toI, .int .i64 ((A.nthA fs (A.nat n2)).cellAt 1).toI, .int .i64 ((A.nthA fs (A.nat n2)).cellAt 2).toI, .list (.ints .i64 ((A.nthA fs (A.nat n2)).cellAt 3).toIs), .int .i64 (A.add ((A.nthA x3 (A.nat (A.sub (A.int (A.lenA x3)) 1))).cellAt 4).toI (A.sub (A.rem (A.add (A.rem (A.sub ((A.nthA fs (A.nat n2)).cellAt 1).toI ((A.nthA x3 (A.nat (A.sub (A.int (A.lenA x3)) 1))).cellAt 4).toI) 64) 64) 64) 64))])])):=by kernel_rfl
theorem ZKD(A:Ar)(c:Int)(fs:List AV)(n0 n2:Int)(x3:List AV):Zad A tab BOk 98 [true,false,true,false] (ZdS c fs n0 n2 x3) (ZcH c fs n0 n2 x3)=
 some (tr [1,1,0,4,2,3,0,0,0,4,1,0,3,6,3,7,0,1] [A.inR .i64 (A.add n2 1),Nat.ble (A.lenA x3+A.lenA [AV.agg (Row.gen [.int .i64 ((A.nthA fs (A.nat n2)).cellAt 0).toI, .int .i64 ((A.nthA fs (A.nat n2)).cellAt 1).toI, .int .i64 ((A.nthA fs (A.nat n2)).cellAt 2).toI, .list (.ints .i64 ((A.nthA fs (A.nat n2)).cellAt 3).toIs), .int .i64 (A.add ((A.nthA x3 (A.nat (A.sub (A.int (A.lenA x3)) 1))).cellAt 4).toI (A.rem (A.add (A.rem (A.sub ((A.nthA fs (A.nat n2)).cellAt 1).toI ((A.nthA x3 (A.nat (A.sub (A.int (A.lenA x3)) 1))).cellAt 4).toI) 64) 64) 64))])]) 4294967296,List.all [AV.agg (Row.gen [.int .i64 ((A.nthA fs (A.nat n2)).cellAt 0).toI, .int .i64 ((A.nthA fs (A.nat n2)).cellAt 1).toI, .int .i64 ((A.nthA fs (A.nat n2)).cellAt 2).toI, .list (.ints .i64 ((A.nthA fs (A.nat n2)).cellAt 3).toIs), .int .i64 (A.add ((A.nthA x3 (A.nat (A.sub (A.int (A.lenA x3)) 1))).cellAt 4).toI (A.rem (A.add (A.rem (A.sub ((A.nthA fs (A.nat n2)).cellAt 1).toI ((A.nthA x3 (A.nat (A.sub (A.int (A.lenA x3)) 1))).cellAt 4).toI) 64) 64) 64))])] fun x=>AV.bx x&&Nat.beq (Zac A x) 5,A.inR .i64 (A.add ((A.nthA x3 (A.nat (A.sub (A.int (A.lenA x3)) 1))).cellAt 4).toI (A.rem (A.add (A.rem (A.sub ((A.nthA fs (A.nat n2)).cellAt 1).toI ((A.nthA x3 (A.nat (A.sub (A.int (A.lenA x3)) 1))).cellAt 4).toI) 64) 64) 64)),!A.lt 32 (A.rem (A.add (A.rem (A.sub ((A.nthA fs (A.nat n2)).cellAt 1).toI ((A.nthA x3 (A.nat (A.sub (A.int (A.lenA x3)) 1))).cellAt 4).toI) 64) 64) 64),A.not (A.eq 64 0),A.inR .i64 (A.add (A.rem (A.sub ((A.nthA fs (A.nat n2)).cellAt 1).toI ((A.nthA x3 (A.nat (A.sub (A.int (A.lenA x3)) 1))).cellAt 4).toI) 64) 64),A.not (A.eq 64 0),A.inR .i64 (A.sub ((A.nthA fs (A.nat n2)).cellAt 1).toI ((A.nthA x3 (A.nat (A.sub (A.int (A.lenA x3)) 1))).cellAt 4).toI),Zab (Nat.blt (A.nat (A.sub (A.int (A.lenA x3)) 1)) (A.lenA x3)) true,Zab (A.le 0 (A.sub (A.int (A.lenA x3)) 1)) (Nat.blt (A.nat (A.sub (A.int (A.lenA x3)) 1)) (A.lenA x3)),A.inR .i64 (A.sub (A.int (A.lenA x3)) 1),A.lt 0 (A.int (A.lenA x3)),A.inR .i64 (A.add ((A.nthA fs (A.nat n2)).cellAt 1).toI 64),!A.not (A.eq ((A.nthA fs (A.nat n2)).cellAt 0).toI c),Zab (Zab (A.le 0 n2) (Nat.blt (A.nat n2) (A.lenA fs))) true,A.lt n2 n0],
  ZeZ (c) (fs) (n0) (A.add n2 1) (A.appA x3 [AV.agg (Row.gen [.int .i64 ((A.nthA fs (A.nat n2)).cellAt 0).toI, .int .i64 ((A.nthA fs (A.nat n2)).cellAt 1).toI, .int .i64 ((A.nthA fs (A.nat n2)).cellAt 2).toI, .list (.ints .i64 ((A.nthA fs (A.nat n2)).cellAt 3).toIs), .int .i64 (A.add ((A.nthA x3 (A.nat (A.sub (A.int (A.lenA x3)) 1))).cellAt 4).toI (A.rem (A.add (A.rem (A.sub ((A.nthA fs (A.nat n2)).cellAt 1).toI ((A.nthA x3 (A.nat (A.sub (A.int (A.lenA x3)) 1))).cellAt 4).toI) 64) 64) 64))])])):=by kernel_rfl
theorem ZK9(A:Ar)(c:Int)(fs:List AV)(n0 n2:Int)(x3:List AV):Zaz A tab BOk 20 [false] 79 (ZdS c fs n0 n2 x3) (ZcH c fs n0 n2 x3)=
 some (tr [2,1,1,1] [Zab (Nat.ble (cpL (List.foldl ZhB [] x3)) (A.lenA (cpZ (List.foldl ZhB [] x3)))) (Zab (decide (soB (List.foldl ZhB [] x3)=true)) true),Zab (decide (soB x3=true)) true,!A.lt n2 n0],
  AV.row 0 0,some { e:=140,sz:=5,r:=Row.big (.agg [.int .i64, .int .i64, .int .i64, .ints .i64, .int .i64]) (A.subA (cpZ (List.foldl ZhB [] x3)) 0 (cpL (List.foldl ZhB [] x3))) }):=by kernel_rfl
end Go.Proofs.Ytjhdnpmojhkbjaa
/- Contracts as a list. No condition. -/
namespace Go.Proofs.Ytjhdnpmojhkbjaa
theorem ZuL{f:FuncId}{args:List AV}{e sz:Nat}{r:Row}(h:ZaH Try.prog f args (.row 0 0) (some ⟨e,sz+1,r⟩))(hp:r.pure=true):ZaH Try.prog f args (.list r) none:=by
 intro w okA L vs hargs hok
 refine(h w okA L vs hargs hok).mono ?_
 rintro e' w' ⟨x,L',rfl,hb,hpo⟩
 obtain⟨H,hr⟩:HRel (Ctx.of Try.prog w okA []) (Zaj (some ⟨e,sz+1,r⟩)) L' w'∧ZaB (Ctx.of Try.prog w okA []) (Zaj (some ⟨e,sz+1,r⟩)) L' w' (.row 0 0) x:=hpo
 refine⟨x,L',rfl,hb,?_⟩
 show HRel _ (Zaj none) L' w'∧ZaB _ (Zaj none) L' w' (.list r) x
 refine⟨H.nil,?_⟩
 have hbk:blk (Zaj (some ⟨e,sz+1,r⟩)) 0 0=.row e (sz+1) r:=rfl
 obtain⟨ht,h0,h1,h2,h3,cur,h4,h5,h6,h7,h8⟩:=H.rowAt hbk
 have hl:=H.live 0 0 (by rw[ht];simp)
 cases hr with
 |row _ _ g o n c hn hlv=>
  obtain⟨rfl,rfl,rfl,rfl⟩:=hlv.2 _ ht
  have hpa:=ZaD hp
  exact .list r _ rfl ⟨L'.loc 0 0,0,none⟩ _ _ (sz+1) _ hl.2 (.inr ⟨hl.1,fun a i ht=>absurd rfl ht⟩) rfl hn h3 h6.1.symm h7 (fun j v hj=>h8 j v hj) hpa
   (fun j u v hu hv=>((h6.2 j u v hu hv).okmono (fun g _ ho=>Zcb ho)).pure (AV.pureL_mem hpa hu))
theorem ZqS(L c:Int):((c-L).tmod 64+64).tmod 64=ZaL (c-L) 64:=by
 rw[ZfO]
 rcases Int.le_total 0 (c-L)with h |h
 ·rw[Int.tmod_eq_emod_of_nonneg h,Int.tmod_eq_emod_of_nonneg (by omega)];omega
 ·obtain⟨y,hy⟩:∃y,c-L= -y:=⟨-(c-L),by omega⟩
  rw[hy,Int.neg_tmod,Int.tmod_eq_emod_of_nonneg (by omega:(0:Int)≤y),Int.tmod_eq_emod_of_nonneg (by omega)];omega
def Zcn(X:List AV):Int:=Zav (X.getD (X.length-1) .top)
theorem Zjk(X:List AV)(x:AV):Zcn (X++[x])=Zav x:=by
 unfold Zcn
 simp
theorem Zqv(X:List AV)(f:AV)(k:Int)(h:ZaK X=true):ZaK (X++[Zmt f k])=true:=by
 rw[Zbj,h];rfl
theorem Zn9(x:Int): -64<x.tmod 64∧x.tmod 64<64:=by
 rcases Int.le_total 0 x with h |h
 ·rw[Int.tmod_eq_emod_of_nonneg h];omega
 ·obtain⟨y,rfl⟩:∃y,x= -y:=⟨-x,by omega⟩
  rw[Int.neg_tmod,Int.tmod_eq_emod_of_nonneg (by omega:(0:Int)≤y)];omega
theorem Zpg{X:List AV}(h:ZaK X=true):ZaK (Zax X)=true:=by
 unfold ZaK at*
 rw[List.all_eq_true]at*
 intro x hx
 exact h x (ZfL hx)
def Zdc(c:Int)(fs:List AV):List AV:=cpN (Zax (Zbw c fs))
section
variable {C:Ctx}(hC:C.P=Try.prog)(c:Int)(fs:List AV)(hfl:fs.length<10000)(hct:ctB fs=true)
include hC hfl hct
theorem ZNr:∀(d i:Nat) (X:List AV),fs.length-i=d→i≤fs.length→X≠[]→X.length≤i→ZaK X=true→(-32*(i:Int)≤Zcn X∧Zcn X≤200+32*i)→X++ZiY c (fs.drop i) (Zcn X)=Zbw c fs→
 Ev C (ZdS c fs fs.length i X) (ZcH c fs fs.length i X) (ZdV 79 (.row 0 0) (some ⟨140,5, .big shN (Zdc c fs)⟩)):=by
 intro d
 induction d with
 |zero=>
  intro i X hd hi hX hXl hn hb hinv
  rw[List.drop_of_length_le (by omega),ZiY,List.append_nil]at hinv
  have hw:=ZK9 std c fs fs.length i X
  rw[show List.foldl ZhB [] X=Zax X from rfl,Zvm]at hw
  have hl:(Zax X).length=X.length:=Zcu X
  have hsl:=Zrp (Zax X)
  have s1:soB X=true:=by unfold soB;rw[hn,Bool.and_true];exact decide_eq_true (by omega)
  have s2:soB (Zax X)=true:=by unfold soB;rw[Zpg hn,Bool.and_true];exact decide_eq_true (by omega)
  have hz:(cpZ (Zax X)).length=(Zax X).length:=by unfold cpZ;rw[List.length_append,List.length_replicate];omega
  have hz2:std.subA (cpZ (Zax X)) 0 (cpN (Zax X)).length=cpN (Zax X):=by
   show sub3 _ _ _=_
   unfold cpZ sub3
   simp
  rw[hz2,s1,s2]at hw
  refine fin hC Zee hw ?_ rfl ?_
  ·simp only[Zhp,hz];simp[hl];omega
  ·unfold Zdc;rw[←hinv]
 |succ d ih=>
  intro i X hd hi hX hXl hn hb hinv
  have hlt:i<fs.length:=by omega
  have hg:fs.getD i .top=fs[i]:=by simp[hlt]
  have hcf:0≤ctF fs[i]∧ctF fs[i]≤63:=by
   have:=List.all_eq_true.mp hct fs[i] (List.getElem_mem hlt)
   exact of_decide_eq_true this
  have hXp:0<X.length:=List.length_pos_iff.mpr hX
  have e1:(std.sub (std.int X.length) 1).toNat=X.length-1:=by simp
  have e2:std.add (i:Int) 1=((i+1:Nat):Int):=by simp
  rw[List.drop_eq_getElem_cons hlt,ZiY]at hinv
  by_cases hch:chF fs[i]=c
  ·rw[if_pos hch]at hinv
   have hch':AV.toI (AV.cellAt fs[i] 0)=c:=hch
   have hnr:=ZoD (Zcn X) (ctF fs[i])
   have hm:=ZqS (Zcn X) (ctF fs[i])
   have hm2:=ZfO (ctF fs[i]-Zcn X)
   have hne:ZfV (Zcn X) (ctF fs[i])=if ZaL (ctF fs[i]-Zcn X) 64≤32 then Zcn X+ZaL (ctF fs[i]-Zcn X) 64 else Zcn X+ZaL (ctF fs[i]-Zcn X) 64-64:=rfl
   have ih':=ih (i+1) (X++[Zmt fs[i] (ZfV (Zcn X) (ctF fs[i]))]) (by omega) (by omega) (by simp) (by simp;omega) (Zqv _ _ _ hn) (by rw[Zjk,Zkt];omega) (by rw[Zjk,Zkt,List.append_assoc];exact hinv)
   by_cases hm3:ZaL (ctF fs[i]-Zcn X) 64≤32
   ·rw[if_pos hm3]at hne
    have hw:=ZKD std c fs fs.length i X
    simp only[ZaC,Zar,Zhp,Zc6,Int.toNat_natCast,hg,e1,e2,hch']at hw
    simp only[show (AV.cellAt fs[i] 1).toI=ctF fs[i]from rfl,show(AV.cellAt (X.getD (X.length-1) .top) 4).toI=Zcn X from rfl]at hw
    simp only[ZaW,ZbT,ZE4,hm]at hw
    rw[←hne]at hw
    rw[←hch',show(AV.agg (Row.gen [AV.int .i64 (AV.toI (AV.cellAt fs[i] 0)),AV.int .i64 (ctF fs[i]),AV.int .i64 (AV.toI (AV.cellAt fs[i] 2)),AV.list (.ints .i64 (AV.toIs (AV.cellAt fs[i] 3))),AV.int .i64 (ZfV (Zcn X) (ctF fs[i]))]))=Zmt fs[i] (ZfV (Zcn X) (ctF fs[i]))from rfl,hch']at hw
    refine go hC Zee hw ?_ ih'
    have hr:=Zn9 (ctF fs[i]-Zcn X)
    generalize Zcn X=L at*
    generalize ctF fs[i]=q at*
    simp[hlt,AV.bx,Zac,Row.len,Zmt]
    omega
   ·rw[if_neg hm3]at hne
    have hw:=ZMW std c fs fs.length i X
    simp only[ZaC,Zar,Zhp,Zc6,Int.toNat_natCast,hg,e1,e2,hch']at hw
    simp only[show (AV.cellAt fs[i] 1).toI=ctF fs[i]from rfl,show(AV.cellAt (X.getD (X.length-1) .top) 4).toI=Zcn X from rfl]at hw
    simp only[ZaW,ZbT,ZE4,hm]at hw
    rw[Int.add_sub_assoc]at hne
    rw[←hne]at hw
    rw[←hch',show(AV.agg (Row.gen [AV.int .i64 (AV.toI (AV.cellAt fs[i] 0)),AV.int .i64 (ctF fs[i]),AV.int .i64 (AV.toI (AV.cellAt fs[i] 2)),AV.list (.ints .i64 (AV.toIs (AV.cellAt fs[i] 3))),AV.int .i64 (ZfV (Zcn X) (ctF fs[i]))]))=Zmt fs[i] (ZfV (Zcn X) (ctF fs[i]))from rfl,hch']at hw
    refine go hC Zee hw ?_ ih'
    have hr:=Zn9 (ctF fs[i]-Zcn X)
    generalize Zcn X=L at*
    generalize ctF fs[i]=q at*
    simp[hlt,AV.bx,Zac,Row.len,Zmt]
    omega
  ·rw[if_neg hch]at hinv
   have hch':¬AV.toI (AV.cellAt fs[i] 0)=c:=hch
   have hw:=ZKN std c fs fs.length i X
   simp only[ZaC,Zar,Int.toNat_natCast,hg,e2]at hw
   exact go hC Zee hw (by simp[hlt,hch'];omega) (ih (i+1) X (by omega) (by omega) hX (by omega) hn (by omega) hinv)
theorem ZKG:∀(d i:Nat),fs.length-i=d→i≤fs.length→(Zbw c (fs.drop i)=Zbw c fs)→Zbw c fs≠[]→
 Ev C (ZdA c fs fs.length i) (ZcO c fs fs.length i) (ZdV 79 (.row 0 0) (some ⟨140,5, .big shN (Zdc c fs)⟩)):=by
 intro d
 induction d with
 |zero=>
  intro i hd hi hinv hne
  rw[List.drop_of_length_le (by omega)]at hinv
  exact absurd hinv.symm hne
 |succ d ih=>
  intro i hd hi hinv hne
  have hlt:i<fs.length:=by omega
  have hg:fs.getD i .top=fs[i]:=by simp[hlt]
  have hcf:0≤ctF fs[i]∧ctF fs[i]≤63:=by
   have:=List.all_eq_true.mp hct fs[i] (List.getElem_mem hlt)
   exact of_decide_eq_true this
  have e2:std.add (i:Int) 1=((i+1:Nat):Int):=by simp
  rw[List.drop_eq_getElem_cons hlt,Zbw]at hinv
  by_cases hch:chF fs[i]=c
  ·rw[if_pos hch]at hinv
   have hch':AV.toI (AV.cellAt fs[i] 0)=c:=hch
   have hw:=ZKW std c fs fs.length i
   simp only[ZaC,Zar,Int.toNat_natCast,hg,e2,hch']at hw
   simp only[show (AV.cellAt fs[i] 1).toI=ctF fs[i]from rfl,ZbT]at hw
   rw[←hch',show(AV.agg (Row.gen [AV.int .i64 (AV.toI (AV.cellAt fs[i] 0)),AV.int .i64 (ctF fs[i]),AV.int .i64 (AV.toI (AV.cellAt fs[i] 2)),AV.list (.ints .i64 (AV.toIs (AV.cellAt fs[i] 3))),AV.int .i64 (ctF fs[i]+64)]))=Zmt fs[i] (ctF fs[i]+64)from rfl,hch']at hw
   refine go hC Zee hw ?_ (ZNr hC c fs hfl hct _ (i+1) [Zmt fs[i] (ctF fs[i]+64)] rfl (by omega) (by simp) (by simp) rfl ?_ ?_)
   ·generalize ctF fs[i]=q at*
    simp[hlt,AV.bx,Zac,Row.len,Zmt]
    omega
   ·show -32*(((i+1:Nat):Nat):Int)≤ctF fs[i]+64∧ctF fs[i]+64≤200+32*(((i+1:Nat):Nat):Int)
    omega
   ·exact hinv
  ·rw[if_neg hch]at hinv
   have hch':¬AV.toI (AV.cellAt fs[i] 0)=c:=hch
   have hw:=ZGQ std c fs fs.length i
   simp only[ZaC,Zar,Int.toNat_natCast,hg,e2]at hw
   exact go hC Zee hw (by simp[hlt,hch'];omega) (ih (i+1) (by omega) (by omega) hinv hne)
end
section
variable {C:Ctx}(hC:C.P=Try.prog)(c:Int)(fs:List AV)(hfl:fs.length<10000)
include hC hfl
theorem ZLK:∀(d i:Nat),fs.length-i=d→i≤fs.length→Zbw c (fs.drop i)=[]→
 Ev C (ZdA c fs fs.length i) (ZcO c fs fs.length i) (ZdV 79 .nils none):=by
 intro d
 induction d with
 |zero=>intro i hd hi _;exact fin hC Zee (ZLm std c fs fs.length i) (by simp;omega) rfl rfl
 |succ d ih=>
  intro i hd hi hinv
  have hlt:i<fs.length:=by omega
  have hg:fs.getD i .top=fs[i]:=by simp[hlt]
  have e2:std.add (i:Int) 1=((i+1:Nat):Int):=by simp
  rw[List.drop_eq_getElem_cons hlt,Zbw]at hinv
  by_cases hch:chF fs[i]=c
  ·rw[if_pos hch]at hinv;cases hinv
  ·rw[if_neg hch]at hinv
   have hch':¬AV.toI (AV.cellAt fs[i] 0)=c:=hch
   have hw:=ZGQ std c fs fs.length i
   simp only[ZaC,Zar,Int.toNat_natCast,hg,e2]at hw
   exact go hC Zee hw (by simp[hlt,hch'];omega) (ih (i+1) (by omega) (by omega) hinv)
end
theorem ZK3(c:Int)(fs:List AV)(h:nmB fs=true):ZaH Try.prog 79 [.int .i64 c, .list (.big Zg8 fs)] (.list (.big shN (Zdc c fs))) none:=by
 unfold nmB at h
 simp only[Bool.and_eq_true,decide_eq_true_eq]at h
 by_cases h0:Zbw c fs=[]
 ·have e:Zdc c fs=[]:=by unfold Zdc;rw[h0];rfl
  rw[e]
  exact wk2 (start (ZsS c fs) fun C hC=>go hC Zee (ZJk std c fs) (by simp) (by
   have:=ZLK hC c fs h.1 fs.length 0 (by omega) (by omega) (by simpa using h0)
   simpa using this)) (.one (.nil _ rfl))
 ·exact ZuL (e:=140) (sz:=4) (start (ZsS c fs) fun C hC=>go hC Zee (ZJk std c fs) (by simp) (by
   have:=ZKG hC c fs h.1 h.2 fs.length 0 (by omega) (by omega) (by simp) h0
   simpa using this)) rfl
theorem Zrk(c:Int)(fs:List AV):Zdc c fs=cpN (Zax (Zbw c fs)):=rfl
attribute [irreducible] Zdc
def k79:Ctr:=⟨79,0,fun _ a=>match a with |[.int .i64 c, .list (.big (.agg [.int .i64, .int .i64, .int .i64, .ints .i64]) fs)]=>some (decide (nmB fs=true), .list (.big shN (Zdc c fs)),none) |_=>none⟩
theorem ZGn:k79.OK Try.prog:=fun pa args r fr h=>by
 simp only[k79]at h
 split at h
 ·simp only[Option.some.injEq,Prod.mk.injEq,decide_eq_true_eq]at h
  obtain⟨h0,rfl,rfl⟩:=h
  exact ZK3 _ _ h0
 ·cases h
def BOl:List Ctr:=[k79]++BOk
theorem ZbI:Zap Try.prog BOl:=⟨ZGn,Zee⟩
end Go.Proofs.Ytjhdnpmojhkbjaa
/- Owned rows that come back are read as lists. No condition. -/
namespace Go.Proofs.Ytjhdnpmojhkbjaa
theorem Zue{f:FuncId}{args:List AV}{e sz:Nat}{r:Row}(h:ZaH Try.prog f args (.row 0 0) (some ⟨e,sz+1,r⟩))(hp:r.pure=true):ZaH Try.prog f args (.list r) none:=by
 intro w okA L vs hargs hok
 refine(h w okA L vs hargs hok).mono ?_
 rintro e' w' ⟨x,L',rfl,hb,hpo⟩
 obtain⟨H,hr⟩:HRel (Ctx.of Try.prog w okA []) (Zaj (some ⟨e,sz+1,r⟩)) L' w'∧ZaB (Ctx.of Try.prog w okA []) (Zaj (some ⟨e,sz+1,r⟩)) L' w' (.row 0 0) x:=hpo
 refine⟨x,L',rfl,hb,?_⟩
 show HRel _ (Zaj none) L' w'∧ZaB _ (Zaj none) L' w' (.list r) x
 refine⟨H.nil,?_⟩
 have hbk:blk (Zaj (some ⟨e,sz+1,r⟩)) 0 0=.row e (sz+1) r:=rfl
 obtain⟨ht,h0,h1,h2,h3,cur,h4,h5,h6,h7,h8⟩:=H.rowAt hbk
 have hl:=H.live 0 0 (by rw[ht];simp)
 cases hr with
 |row _ _ g o n c hn hlv=>
  obtain⟨rfl,rfl,rfl,rfl⟩:=hlv.2 _ ht
  have hpa:=ZaD hp
  exact .list r _ rfl ⟨L'.loc 0 0,0,none⟩ _ _ (sz+1) _ hl.2 (.inr ⟨hl.1,fun a i ht=>absurd rfl ht⟩) rfl hn h3 h6.1.symm h7 (fun j v hj=>h8 j v hj) hpa
   (fun j u v hu hv=>((h6.2 j u v hu hv).okmono (fun g _ ho=>Zcb ho)).pure (AV.pureL_mem hpa hu))
theorem Zuk{f:FuncId}{args:List AV}{r:Row}(h:ZaH Try.prog f args .nils none)(hr:r.elems=[]):ZaH Try.prog f args (.list r) none:=by
 intro w okA L vs hargs hok
 refine(h w okA L vs hargs hok).mono ?_
 rintro e' w' ⟨x,L',rfl,hb,hpo⟩
 have hpo:HRel (Ctx.of Try.prog w okA []) (Zaj none) L' w'∧ZaB (Ctx.of Try.prog w okA []) (Zaj none) L' w' .nils x:=hpo
 exact⟨x,L',rfl,hb,⟨hpo.1,(Wk1.nil r hr).rel hpo.2⟩⟩
inductive Frz2N (r:Row):AV→AV→Prop
 |row:Frz2N r (.row 0 0) (.list r)
 |same (v:AV) (hp:v.pure=true):Frz2N r v v
def Frz2NL(r:Row):List AV→List AV→Prop
 |[],[]=>True
 |x::xs,y::ys=>Frz2N r x y∧Frz2NL r xs ys
 |_,_=>False
theorem Frz2NL.spec{r:Row} :∀ {xs ys:List AV},Frz2NL r xs ys→xs.length=ys.length∧∀(j:Nat) (y:AV),ys[j]? =some y→∃x,xs[j]? =some x∧Frz2N r x y
 |[],[],_=>⟨rfl,fun j y h=>by simp at h⟩
 |x::xs,y::ys,h=>by
  obtain⟨h1,h2⟩:=h
  obtain⟨e1,e2⟩:=Frz2NL.spec h2
  refine⟨by simp[e1],fun j z hz=>?_⟩
  cases j with
  |zero=>simp at hz;subst hz;exact⟨x,rfl,h1⟩
  |succ j=>obtain⟨q,q1,q2⟩:=e2 j z (by simpa using hz);exact⟨q,by simpa using q1,q2⟩
theorem ZkP{f:FuncId}{args xs ys:List AV}{e sz:Nat}{r:Row}(h:ZaH Try.prog f args (.tup xs) (some ⟨e,sz+1,r⟩))(hp:r.pure=true)(hs:Frz2NL r xs ys):ZaH Try.prog f args (.tup ys) none:=by
 intro w okA L vs hargs hok
 refine(h w okA L vs hargs hok).mono ?_
 rintro e' w' ⟨x,L',rfl,hb,hpo⟩
 obtain⟨H,hr⟩:HRel (Ctx.of Try.prog w okA []) (Zaj (some ⟨e,sz+1,r⟩)) L' w'∧ZaB (Ctx.of Try.prog w okA []) (Zaj (some ⟨e,sz+1,r⟩)) L' w' (.tup xs) x:=hpo
 refine⟨x,L',rfl,hb,?_⟩
 show HRel _ (Zaj none) L' w'∧ZaB _ (Zaj none) L' w' (.tup ys) x
 refine⟨H.nil,?_⟩
 have hbk:blk (Zaj (some ⟨e,sz+1,r⟩)) 0 0=.row e (sz+1) r:=rfl
 obtain⟨ht,h0,h1,h2,h3,cur,h4,h5,h6,h7,h8⟩:=H.rowAt hbk
 have hl:=H.live 0 0 (by rw[ht];simp)
 have hpa:=ZaD hp
 obtain⟨e1,e2⟩:=hs.spec
 cases hr with
 |tup _ vs hlen hrr=>
  refine .tup _ vs (by rw[←e1];exact hlen) (fun j u v hu hv=>?_)
  obtain⟨q,q1,q2⟩:=e2 j u hu
  have hqv:=hrr j q v q1 hv
  cases q2 with
  |same _ hpu=>exact(hqv.okmono (fun g _ ho=>Zcb ho)).pure hpu
  |row=>
   cases hqv with
   |row _ _ g o n c hn hlv=>
    obtain⟨rfl,rfl,rfl,rfl⟩:=hlv.2 _ ht
    exact .list r _ rfl ⟨L'.loc 0 0,0,none⟩ _ _ (sz+1) _ hl.2 (.inr ⟨hl.1,fun a i ht=>absurd rfl ht⟩) rfl hn h3 h6.1.symm h7 (fun j v hj=>h8 j v hj) hpa
     (fun j u v hu hv=>((h6.2 j u v hu hv).okmono (fun g _ ho=>Zcb ho)).pure (AV.pureL_mem hpa hu))
end Go.Proofs.Ytjhdnpmojhkbjaa
