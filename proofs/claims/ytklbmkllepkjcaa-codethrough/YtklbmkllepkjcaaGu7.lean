/- Contracts as a list. No condition. -/
import Derived.Test.YtklbmkllepkjcaaPy
import Derived.KernelRfl
namespace Go.Proofs.Ytklbmkllepkjcaa
def paL(n:Nat)(l:List Int)(i:Nat):List Int:=(l.drop (i*n)).take n
theorem ZcG{n D:Nat}{l:List Int}(hl:l.length=D*n){i:Nat}(hi:i<D):(paL n l i).length=n:=by
 have:(i+1)*n≤D*n:=Nat.mul_le_mul_right n hi
 rw[Nat.add_mul,Nat.one_mul]at this
 unfold paL
 rw[List.length_take,List.length_drop];omega
theorem Zp4{n:Nat}{l:List Int}{i j:Nat}(hj:j<n):(paL n l i).getD j 0=l.getD (i*n+j) 0:=by
 unfold paL
 rw[List.getD_eq_getElem?_getD,List.getD_eq_getElem?_getD,List.getElem?_take,if_pos hj,List.getElem?_drop]
theorem Zpf{n:Nat}{l:List Int}(h:ZaP l 0 15=0)(i:Nat):ZaP (paL n l i) 0 15=0:=Zfr fun j hj=>by
 have hj2:j<n:=by unfold paL at hj;rw[List.length_take]at hj;omega
 rw[Zp4 hj2]
 exact ZiV h _
def woL(h:Int)(n:Nat)(l:List Int):Nat→List Int
 |0=>[]
 |i+1=>woL h n l i++enW h (paL n l i)
def biL:List Int→List Int
 |[]=>[]
 |x::l=>b4L x++biL l
def lnB(m p q h D:Int)(l:List Int):Bool:=decide (lkE m p q h D=0)&&(decide ((l.length:Int)=D*(15-2*h))&&decide (ZaP l 0 15=0))
structure LnK (h D:Int) (l:List Int) (n d:Nat):Prop where
 hb:hfB h=true
 hd:D=d
 d1:1≤d∧d≤4
 hn:(n:Int)=15-2*h
 n1:9≤n∧n≤13
 hl:l.length=d*n
 hr:ZaP l 0 15=0
theorem ZG7{m p q h D:Int}{l:List Int}(g:lnB m p q h D l=true):ZaB m p q=0∧∃n d,LnK h D l n d:=by
 unfold lnB at g
 rw[Bool.and_eq_true,Bool.and_eq_true]at g
 obtain⟨g1,g2,g3⟩:=g
 have g1:=of_decide_eq_true g1
 have g2:=of_decide_eq_true g2
 have g3:=of_decide_eq_true g3
 obtain⟨e1,e2,h1,h2,h3,h4⟩:=Zn9 g1
 obtain⟨d,rfl⟩:=Int.eq_ofNat_of_zero_le (show 0≤D by omega)
 obtain⟨n,hn⟩:=Int.eq_ofNat_of_zero_le (show 0≤15-2*h by omega)
 refine⟨e1,n,d,e2,rfl,by omega,by omega,by omega,?_,g3⟩
 rw[hn]at g2
 exact_mod_cast g2
theorem LnK.da{h D:Int}{l:List Int}{n d:Nat}(K:LnK h D l n d){i:Nat}(hi:i<d):daB h (paL n l i)=true:=by
 have e:=ZcG K.hl hi
 unfold daB elE Zam
 rw[K.hb,e,Zpf K.hr]
 simp[K.hn,ZaD]
theorem LnK.en{h D:Int}{l:List Int}{n d:Nat}(K:LnK h D l n d){i:Nat}(hi:i<d):(enW h (paL n l i)).length=15∧ZaP (enW h (paL n l i)) 0 15=0:=okw_iff.1 (Zr1 (ZoJ (K.da hi)))
theorem ZqU{a b:List Int}(j:Nat):(a++b).getD j 0=if j<a.length then a.getD j 0 else b.getD (j-a.length) 0:=by
 rw[List.getD_eq_getElem?_getD,List.getD_eq_getElem?_getD,List.getD_eq_getElem?_getD,List.getElem?_append]
 split<;>rfl
theorem LnK.wo{h D:Int}{l:List Int}{n d:Nat}(K:LnK h D l n d):∀i,i≤d→(woL h n l i).length=15*i∧ZaP (woL h n l i) 0 15=0
 |0,_=>⟨rfl,rfl⟩
 |i+1,hi=>by
  obtain⟨a,b⟩:=K.wo i (by omega)
  obtain⟨c,e⟩:=K.en (show i<d by omega)
  refine⟨by rw[woL,List.length_append,a,c];omega,Zfr fun j _=>?_⟩
  rw[woL,ZqU]
  split
  ·exact ZiV b _
  ·exact ZiV e _
theorem ZvV{l:List Int}{R:Nat}(h:ZaP l 0 15=0):ZaP (tS l R) 0 15=0:=Zfr fun j hj=>by
 rw[ZdW]at hj
 have:(tS l R).getD j 0=tE l R j:=by simp[tS,hj]
 rw[this]
 exact ZiV h _
theorem LnK.rc{h D:Int}{l:List Int}{n d:Nat}(K:LnK h D l n d):rcB (woL h n l d) D=true:=by
 obtain⟨a,_⟩:=K.wo d (Nat.le_refl _)
 have h1:=K.d1
 refine decide_eq_true ?_
 rw[K.hd,a,Int.toNat_natCast,Nat.mul_div_cancel _ (by omega)]
 exact⟨by omega,by omega,by omega,by omega,rfl⟩
def mxL(h:Int)(n:Nat)(l:List Int)(d:Nat):List Int:=tS (woL h n l d) d
theorem LnK.mx{h D:Int}{l:List Int}{n d:Nat}(K:LnK h D l n d):(mxL h n l d).length=15*d∧ZaP (mxL h n l d) 0 15=0:=by
 obtain⟨a,b⟩:=K.wo d (Nat.le_refl _)
 exact⟨by rw[mxL,ZdW,a],ZvV b⟩
theorem ZEv{x:Int}(h:0≤x∧x≤15):Zax (b4L x)=true:=by
 obtain⟨k,rfl⟩:=Int.eq_ofNat_of_zero_le h.1
 have h2:k<16:=by omega
 revert h2
 exact(by decide:∀a:Fin 16,Zax (b4L (a.val:Int))=true) ⟨k,by omega⟩ |> fun e _=>e
theorem Zr6:∀l,(biL l).length=4*l.length
 |[]=>rfl
 |x::l=>by rw[biL,List.length_append,Zr6 l,List.length_cons];simp[b4L];omega
theorem Zqs:∀l:List Int,ZaP l 0 15=0→Zax (biL l)=true
 |[],_=>rfl
 |x::l,h=>by
  have h0:=ZrA h (by omega) 0
  have hx:ZaP l 0 15=0:=Zfr fun j _=>ZiV h (j+1)
  exact ZdL (ZEv h0) (Zqs l hx)
@[irreducible] def snL (m p q h D:Int) (l:List Int):List Int:=Zbf m p q (biL (mxL h (15-2*h).toNat l D.toNat))
theorem LnK.sn{h D:Int}{l:List Int}{n d:Nat}(K:LnK h D l n d)(m p q:Int):snL m p q h D l=Zbf m p q (biL (mxL h n l d)):=by
 unfold snL
 rw[←K.hn,K.hd,Int.toNat_natCast,Int.toNat_natCast]
theorem ZpH{n:Nat}(l:List Int){i a b:Nat}(ha:a=i*n)(hb:b=i*n+n):std.sub3 l a (b-a)=paL n l i:=by
 subst ha hb
 show(l.drop (i*n)).take _=_
 rw[Nat.add_sub_cancel_left];rfl
section
variable {C:Ctx}(hC:C.P=Try.prog)(m p q h D:Int)(l:List Int)(n d:Nat)(K:LnK h D l n d)(hv:ZaB m p q=0)
include hC hv
include K
end
theorem ZIN{x:Int}(h:0≤x∧x≤15):std.bits Go.BinOp.and .i64 (std.shr x 3) 1=(x.tdiv 2 |>.tdiv 2 |>.tdiv 2 |>.tmod 2)∧std.bits Go.BinOp.and .i64 (std.shr x 2) 1=(x.tdiv 2 |>.tdiv 2 |>.tmod 2)∧std.bits Go.BinOp.and .i64 (std.shr x 1) 1=(x.tdiv 2 |>.tmod 2)∧std.bits Go.BinOp.and .i64 (std.shr x 0) 1=x.tmod 2:=by
 obtain⟨k,rfl⟩:=Int.eq_ofNat_of_zero_le h.1
 exact(by decide:∀a:Fin 16,std.bits Go.BinOp.and .i64 (std.shr (a.val:Int) 3) 1=((a.val:Int).tdiv 2 |>.tdiv 2 |>.tdiv 2 |>.tmod 2)∧std.bits Go.BinOp.and .i64 (std.shr (a.val:Int) 2) 1=((a.val:Int).tdiv 2 |>.tdiv 2 |>.tmod 2)∧std.bits Go.BinOp.and .i64 (std.shr (a.val:Int) 1) 1=((a.val:Int).tdiv 2 |>.tmod 2)∧std.bits Go.BinOp.and .i64 (std.shr (a.val:Int) 0) 1=(a.val:Int).tmod 2) ⟨k,by omega⟩
section
variable {C:Ctx}(hC:C.P=Try.prog)(m p q h D:Int)(r:AV)
include hC
theorem ZPW(n13:Int)(l14 out:List Int)(i:Nat)(x:Int)(hx:0≤x∧x≤15)(hi:i≤1000)(ho:out.length≤1000)(hn:Ev C (Zgg m p q h D n13 l14 (i+1:Nat) (out++b4L x)) (ZeN m p q h D n13 l14 (i+1:Nat) (out++b4L x)) (Zny 48 r)):
 Ev C (ZcA m p q h D n13 l14 i x 3 out) (ZbU m p q h D n13 l14 i x 3 out) (Zny 48 r):=by
 obtain⟨x3,x2,x1,x0⟩:=ZIN hx
 have i0:Ev C (ZcA m p q h D n13 l14 i x (-1) (out++b4L x)) (ZbU m p q h D n13 l14 i x (-1) (out++b4L x)) (Zny 48 r):=by
  refine Zm8 hC ZdN Zdq ?_
  simp[Zcv]at hn⊢
  exact⟨by omega,hn⟩
 have i1:Ev C (ZcA m p q h D n13 l14 i x 0 (out++(b4L x).take 3)) (ZbU m p q h D n13 l14 i x 0 (out++(b4L x).take 3)) (Zny 48 r):=by
  refine Zm8 hC ZdN Zdq ?_
  simp only[Zcv,x0]
  simp[b4L,AV.bx,Zag]at i0⊢
  exact⟨by omega,i0⟩
 have i2:Ev C (ZcA m p q h D n13 l14 i x 1 (out++(b4L x).take 2)) (ZbU m p q h D n13 l14 i x 1 (out++(b4L x).take 2)) (Zny 48 r):=by
  refine Zm8 hC ZdN Zdq ?_
  simp only[Zcv,x1]
  simp[b4L,AV.bx,Zag]at i1⊢
  exact⟨by omega,i1⟩
 have i3:Ev C (ZcA m p q h D n13 l14 i x 2 (out++(b4L x).take 1)) (ZbU m p q h D n13 l14 i x 2 (out++(b4L x).take 1)) (Zny 48 r):=by
  refine Zm8 hC ZdN Zdq ?_
  simp only[Zcv,x2]
  simp[b4L,AV.bx,Zag]at i2⊢
  exact⟨by omega,i2⟩
 refine Zm8 hC ZdN Zdq ?_
 simp only[Zcv,x3]
 simp[b4L,AV.bx,Zag]at i3⊢
 exact⟨by omega,i3⟩
theorem ZP3(hv:ZaB m p q=0)(l3:List Int)(hr:ZaP l3 0 15=0)(hl:l3.length≤60):∀(k i:Nat) (out:List Int),i+k=l3.length→out++biL (l3.drop i)=biL l3→Ev C (Zgg m p q h D l3.length l3 i out) (ZeN m p q h D l3.length l3 i out) (Zny 48 (.tup [.list (.ints .i64 (Zbf m p q (biL l3))), .int .i64 0])):=by
 intro k
 induction k with
 |zero=>
  intro i out hi he
  rw[List.drop_of_length_le (by omega),biL,List.append_nil]at he
  subst he
  have hec:ecB m p q (biL l3)=true:=by
   unfold ecB
   rw[Zqs _ hr,Zr6]
   simp[hv];omega
  refine Zm8 hC ZdN Zma ?_
  simp[Zhy,show ¬(i:Int)<l3.length by omega,hec]
  exact⟨_, .same _, .tup ⟨.row _ rfl rfl rfl, .same _ rfl rfl,trivial⟩,rfl⟩
 |succ k ih=>
  intro i out hi he
  have hlt:i<l3.length:=by omega
  have hlt2:(i:Int)<l3.length:=by omega
  rw[Zfk hlt,biL,←List.append_assoc]at he
  have hx:=ZrA hr (by omega) i
  have hol:out.length≤4*l3.length:=by
   have:=congrArg List.length he
   have q:=Zr6 l3
   rw[List.length_append,List.length_append]at this;omega
  have i0:=ZPW hC m p q h D _ l3.length l3 out i (l3.getD i 0) hx (by omega) (by omega) (ih (i+1) _ (by omega) he)
  refine Zm8 hC ZdN Zma ?_
  simp[-List.getD_eq_getElem?_getD,Zhy,hlt,hlt2]at i0⊢
  exact i0
theorem ZP9(l:List Int)(n d:Nat)(K:LnK h D l n d)(hv:ZaB m p q=0)(n0 n1 n2:Int)(b3:Bool)(n4 n5 n6 n7:Int)(b8:Bool)(n9:Int):∀(k i:Nat),i+k=d→Ev C (Zg9 m p q h D l n0 n1 n2 b3 n4 n5 n6 n7 b8 n9 n ((i*n:Nat):Int) (woL h n l i)) (ZfN m p q h D l n0 n1 n2 b3 n4 n5 n6 n7 b8 n9 n ((i*n:Nat):Int) (woL h n l i)) (Zny 48 (.tup [.list (.ints .i64 (Zbf m p q (biL (mxL h n l d)))), .int .i64 0])):=by
 have hn:=K.n1
 have hd:=K.d1
 have hD:=K.hd
 have hl:=K.hl
 have hdn:d*n≤52:=Nat.mul_le_mul hd.2 hn.2
 intro k
 induction k with
 |zero=>
  intro i hi
  have:i=d:=by omega
  subst this
  obtain⟨a,b⟩:=K.mx
  have i0:=ZP3 hC m p q h D hv (mxL h n l i) b (by omega) (mxL h n l i).length 0 [] (by omega) rfl
  have rc:=K.rc
  refine Zm8 hC ZdN Zj4 ?_
  simp only[Zf8,ZBU,Zd7,ZbB,hl]
  simp[hD,mxL]at i0 rc⊢
  exact⟨rc,i0⟩
 |succ k ih=>
  intro i hi
  have i0:=ih (i+1) (by omega)
  rw[woL]at i0
  have hid:i<d:=by omega
  have da:=K.da hid
  obtain⟨e1,_⟩:=K.en hid
  obtain⟨e2,_⟩:=K.wo i (by omega)
  have hle:i*n+n≤l.length:=by
   have:(i+1)*n≤d*n:=Nat.mul_le_mul_right n hid
   rw[Nat.add_mul,Nat.one_mul]at this
   rw[K.hl];exact this
  have t0:(std.sub3 l (i*n) (l.length-i*n)).length=l.length-i*n:=by
   show((l.drop (i*n)).take _).length=_
   rw[List.length_take,List.length_drop];omega
  have t1:std.min (n:Int) ((l.length-i*n:Nat):Int)=(n:Int):=by show min _ _=_;omega
  have t2:((i*n:Nat):Int)+(n:Int)=((i*n+n:Nat):Int):=by rw[Int.natCast_add]
  have es:std.sub3 l (i*n) (i*n+n-i*n)=paL n l i:=ZpH l rfl rfl
  have t3:((i*n:Nat):Int)<(l.length:Int):=by omega
  have t4:(i+1)*n=i*n+n:=by rw[Nat.add_mul,Nat.one_mul]
  have e15:std.sub3 (enW h (paL n l i)) 0 15=enW h (paL n l i):=Zgu e1
  rw[t4,←t2]at i0
  generalize i*n=j at*
  refine Zm8 hC ZdN Zj4 ?_
  simp only[Zf8,ZBU,Zgd,ZaX,Zd7,ZbB,t0,Int.toNat_natCast,t1,t2,es,da,e15]
  simp[t3,e1,e2]at i0⊢
  exact⟨by omega,by omega,i0⟩
end
def snE(m p q h D:Int)(l:List Int):Int:=ZaD [lkE m p q h D,elE l (D*(15-2*h))]
@[irreducible] def snV (m p q h D:Int) (l:List Int):List Int:=if snE m p q h D l=0 then snL m p q h D l else []
theorem ZF1{m p q h D:Int}{l:List Int}(e:snE m p q h D l=0):lnB m p q h D l=true:=by
 obtain⟨e1,e2⟩:=ZcL e
 obtain⟨e2,_⟩:=ZcL e2
 obtain⟨a,b⟩:=ZAI e2
 unfold lnB
 simp[e1,a,b]
theorem Zy8(m p q h D:Int)(l:List Int)(hl:l.length≤1000000):Zai Try.prog 48 [.agg (.gen [.int .i64 m, .int .i64 p, .int .i64 q, .int .i64 h, .int .i64 D]), .list (.ints .i64 l)] (.tup [.list (.ints .i64 (snV m p q h D l)), .int .i64 (snE m p q h D l)]) Zsv:=by
 refine Zvw (ZDv m p q h D l) fun C hC=>Zm8 hC ZdN ZMR ?_
 by_cases h1:lkE m p q h D=0
 ·obtain⟨hv,hb,q1,q2,q3,q4⟩:=Zn9 h1
  have b1:D*(15-2*h)≤4*13:=Int.mul_le_mul q4 (by omega) (by omega) (by omega)
  have b2:0≤D*(15-2*h):=Int.mul_nonneg (by omega) (by omega)
  by_cases h2:elE l (D*(15-2*h))=0
  ·have e0:snE m p q h D l=0:=by simp[snE,ZaD,h1,h2]
   obtain⟨_,n,d,K⟩:=ZG7 (ZF1 e0)
   have hn:=K.hn
   have hn1:=K.n1
   have ev:snV m p q h D l=Zbf m p q (biL (mxL h n l d)):=by unfold snV;rw[if_pos e0,K.sn]
   have i:=ZP9 hC m p q h D l n d K hv (15-2*h) 0 0 false (15-2*h) (15-2*h) 0 0 false (15-2*h) d 0 (by omega)
   rw[hn]at i
   simp[ZyA,h1,h2,hl,ev,e0,woL]at i⊢
   refine⟨by omega,by omega,i⟩
  ·have e0:snE m p q h D l=elE l (D*(15-2*h)):=by simp[snE,ZaD,h1,h2]
   have ev:snV m p q h D l=[]:=by unfold snV;rw[if_neg (by rw[e0];exact h2)]
   simp[ZyA,h1,h2,hl,ev,e0]
   exact⟨by omega,_, .same _, .tup ⟨.nil _ rfl, .same _ rfl rfl,trivial⟩,rfl⟩
 ·have e0:snE m p q h D l=lkE m p q h D:=by simp[snE,ZaD,h1]
  have ev:snV m p q h D l=[]:=by unfold snV;rw[if_neg (by rw[e0];exact h1)]
  simp[ZyA,h1,ev,e0]
  exact⟨_, .same _, .tup ⟨.nil _ rfl, .same _ rfl rfl,trivial⟩,rfl⟩
def k48:Ctr:=⟨48,0,fun _ a=>match a with |[.agg (.gen [.int .i64 m, .int .i64 p, .int .i64 q, .int .i64 h, .int .i64 D]), .list (.ints .i64 l)]=>some (decide (l.length≤1000000), .tup [.list (.ints .i64 (snV m p q h D l)), .int .i64 (snE m p q h D l)],Zsv) |_=>none⟩
theorem ZG0:k48.OK Try.prog:=fun pa args r fr h=>by
 simp only[k48]at h
 split at h
 ·simp only[Option.some.injEq,Prod.mk.injEq,decide_eq_true_eq]at h
  obtain⟨h0,rfl,rfl⟩:=h
  exact Zy8 _ _ _ _ _ _ h0
 ·cases h
def Kp:List Ctr:=[k48]++Ko
theorem ZMM:Zay Try.prog Kp:=⟨ZG0,ZdN⟩
end Go.Proofs.Ytklbmkllepkjcaa
/- Paths of functions, printed by the explorer (Gx). No condition. -/
namespace Go.Proofs.Ytklbmkllepkjcaa
set_option maxRecDepth 100000
set_option linter.unusedVariables false
def ZKt(m p q h D:Int)(l:List Int):AFrame:={ fn:=49,N:=108,env:=[(0,AV.agg (Row.gen [.int .i64 m, .int .i64 p, .int .i64 q, .int .i64 h, .int .i64 D])),(1,AV.list (.ints .i64 l))],todo:=[.code a49.code],defs:=[],rnd:=none,ret:=false,res:=[ARes.cell 4 false 1,ARes.cell 5 false 1,ARes.cell 6 false 1] }
def ZPI(m p q h D:Int)(l:List Int):List AFrame:=[(ZKt m p q h D l)]
theorem ZE4(m p q h D:Int)(l:List Int):Zaq tab 49 [AV.agg (Row.gen [.int .i64 m, .int .i64 p, .int .i64 q, .int .i64 h, .int .i64 D]),AV.list (.ints .i64 l)]=some (ZKt m p q h D l):=rfl
def ZeX(m p q h D:Int)(l0 l1 l2 l3 l4:List Int)(n5:Int)(l6:List Int):List AFrame:=[{ fn:=119,N:=31,env:=[(0,AV.yld 49902 1),(1,AV.ptr 96003 0 0 0),(2,AV.ptr 96004 0 0 0),(4,AV.int .i64 n5)],todo:=.code (ACode.gh [] ZqB)::ZrQ,defs:=[],rnd:=none,ret:=false,res:=[] },{ fn:=49,N:=108,env:=[(2,AV.ptr 49003 0 0 0),(4,AV.ptr 49005 0 0 0),(5,AV.ptr 49006 0 0 0),(6,AV.ptr 49007 0 0 0),(10,AV.list (.ints .i64 l0)),(12,AV.ptr 49013 0 0 0),(57,AV.list (.ints .i64 l1)),(58,AV.fn 119 [AV.ptr 96003 0 0 0,AV.ptr 96004 0 0 0])],todo:=[AItem.inRF 49902 1,AItem.inBlock 0, .code (ACode.seq (ACode.reg none [oN 17 (OpK.alloc 49018 25 AV.nils)]) (ACode.gh [Ghost.ownc 17 49103 3 1 (.ints .i64 [])] (ACode.seq (ACode.reg none [oN 18 (OpK.alloc 49019 3 (AV.int .i64 0)),{ d:=none,g:=none,k:=OpK.store 1 (Opd.t 18) (cI 0) }]) (ACode.seq (ACode.seq (ACode.reg (some []) [oN 75 (OpK.load false 1 (Opd.t 12)),oN 76 (OpK.load false 1 (Opd.t 12)),oN 77 (OpK.len (Opd.t 76)),oN 78 (OpK.faddr 4 (Opd.t 2)),oN 79 (OpK.load false 1 (Opd.t 78)),oN 80 (OpK.bin Go.BinOp.quo (Opd.t 77) (Opd.t 79)),oN 81 (OpK.ncall true 49082 97 [Opd.t 75,Opd.t 80]),oN 82 (OpK.icall 96 [Opd.t 81,cI 15])]) (ACode.gh [Ghost.keep [2,4,5,6,17,18,82]] (ACode.block 4 (ACode.rf 49901 (Opd.t 82) [83] (ACode.reg none [mV 19 83]) (ACode.block 5 (ACode.seq (ACode.reg (some [(0,10),(1,10),(2,10),(3,10),(4,10),(5,10),(6,10),(7,10),(8,10),(8,11),(9,10),(9,11)]) [mV 85 19,oN 86 (OpK.s2a 15 (Opd.t 85)),oN 87 (OpK.load true 15 (Opd.t 86)),oN 88 (OpK.faddr 3 (Opd.t 2)),oN 89 (OpK.load false 1 (Opd.t 88)),oN 90 (OpK.ncall true 0 90 [Opd.t 87,Opd.t 89]),mV 84 90,oN 91 (OpK.ext 0 (Opd.t 84)),oN 92 (OpK.ext 1 (Opd.t 84)),oN 93 (OpK.ext 2 (Opd.t 84)),oN 20 (OpK.alloc 49021 107 (AV.agg (.ints .i64 [0,0,0,0,0,0,0,0,0,0,0,0,0,0,0]))),{ d:=none,g:=none,k:=OpK.store 15 (Opd.t 20) (Opd.t 91) },mV 21 92,mV 22 93]) (ACode.gh [Ghost.keep [2,4,5,6,17,18,20,21,22]] (ACode.seq (ACode.seq (ACode.reg none [mV 94 22,oN 95 (OpK.not (Opd.t 94))]) (ACode.cond (Opd.t 95) (ACode.seq (ACode.reg none [{ d:=none,g:=none,k:=OpK.store 1 (Opd.t 4) (Opd.c AV.nils) },{ d:=none,g:=none,k:=OpK.store 1 (Opd.t 5) (cI 0) },{ d:=none,g:=none,k:=OpK.store 1 (Opd.t 6) (cI 27) }]) ACode.ret) ACode.skip)) (ACode.seq (ACode.reg (some []) [oN 96 (OpK.load false 1 (Opd.t 17)),oN 97 (OpK.faddr 3 (Opd.t 2)),oN 98 (OpK.load false 1 (Opd.t 97)),oN 99 (OpK.bin Go.BinOp.mul (cI 2) (Opd.t 98)),oN 100 (OpK.bin Go.BinOp.sub (cI 15) (Opd.t 99)),oN 101 (OpK.asl 15 (Opd.t 20) none (some (Opd.t 100))),oN 102 (OpK.append 49103 3 1 (Opd.t 96) (Opd.t 101)),{ d:=none,g:=none,k:=OpK.store 1 (Opd.t 17) (Opd.t 102) }]) (ACode.gh [Ghost.keep [2,4,5,6,17,18,21]] (ACode.reg none [oN 103 (OpK.load false 1 (Opd.t 18)),mV 104 21,oN 105 (OpK.bin Go.BinOp.add (Opd.t 103) (Opd.t 104)),{ d:=none,g:=none,k:=OpK.store 1 (Opd.t 18) (Opd.t 105) }]))))))))))) (ACode.seq (ACode.reg (some [(1,2)]) [oN 106 (OpK.load false 1 (Opd.t 17)),oN 107 (OpK.load false 1 (Opd.t 18)),{ d:=none,g:=none,k:=OpK.store 1 (Opd.t 4) (Opd.t 106) },{ d:=none,g:=none,k:=OpK.store 1 (Opd.t 5) (Opd.t 107) },{ d:=none,g:=none,k:=OpK.store 1 (Opd.t 6) (cI 0) }]) ACode.ret)))))],defs:=[(49902,0)],rnd:=none,ret:=false,res:=[ARes.cell 4 false 1,ARes.cell 5 false 1,ARes.cell 6 false 1] }]
def ZdP(m p q h D:Int)(l0 l1 l2 l3 l4:List Int)(n5:Int)(l6:List Int):Zaa:=[(49003,{ base:=0,blks:=[Blk.row 78 5 (Row.gen [AV.agg (Row.gen [AV.int .i64 m,AV.int .i64 p,AV.int .i64 q,AV.int .i64 h,AV.int .i64 D])])] }),(49005,{ base:=0,blks:=[Blk.row 25 1 (Row.gen [AV.nils])] }),(49006,{ base:=0,blks:=[Blk.row 3 1 (Row.gen [.int .i64 0])] }),(49007,{ base:=0,blks:=[Blk.row 27 1 (Row.gen [.int .i64 0])] }),(49013,{ base:=0,blks:=[Blk.row 25 1 (Row.gen [.row 49075 0])] }),(49075,{ base:=0,blks:=[Blk.row 3 1 (.ints .i64 l6)] }),(49902,{ base:=0,blks:=[Blk.dfr,Blk.lp { st:=RSt.ready,fn:=49,N:=108,env:=[(2,AV.ptr 49003 0 0 0),(4,AV.ptr 49005 0 0 0),(5,AV.ptr 49006 0 0 0),(6,AV.ptr 49007 0 0 0),(10,AV.list (.ints .i64 l2)),(12,AV.ptr 49013 0 0 0),(57,AV.list (.ints .i64 l3)),(58,AV.fn 119 [AV.ptr 96003 0 0 0,AV.ptr 96004 0 0 0])],params:=[59],asg:=ACode.reg none [mV 13 59],body:=ACode.block 1 (ACode.seq (ACode.reg none [oN 14 (OpK.mov (cI 0))]) (ACode.seq (ACode.seq (ACode.reg none [mV 60 13,oN 61 (OpK.len (Opd.t 60)),oN 62 (OpK.mov (cI 0))]) (ACode.block 2 (ACode.loop Zyy))) Zxd)) }] }),(96003,{ base:=0,blks:=[Blk.row 25 1 (Row.gen [.list (.ints .i64 l4)])] }),(96004,{ base:=0,blks:=[Blk.row 3 1 (Row.gen [.int .i64 4])] })]
abbrev Zjy(m p q h D:Int)(l0 l1 l2 l3 l4:List Int)(n5:Int)(l6:List Int):List AFrame×Zaa:=(ZeX m p q h D l0 l1 l2 l3 l4 n5 l6,ZdP m p q h D l0 l1 l2 l3 l4 n5 l6)
def ZkP(m p q h D:Int)(l0 l1 l2 l3 l4:List Int)(n5:Int)(l6 l7:List Int)(n8 n9 n10 n11 n12 n13:Int)(l14:List Int)(n15 n16:Int):List AFrame:=[{ fn:=49,N:=108,env:=[(2,AV.ptr 49003 0 0 0),(4,AV.ptr 49005 0 0 0),(5,AV.ptr 49006 0 0 0),(6,AV.ptr 49007 0 0 0),(12,AV.ptr 49013 0 0 0),(14,AV.int .i64 n15),(60,AV.list (.ints .i64 l7)),(61,AV.int .i64 n8),(62,AV.int .i64 n16)],todo:=.code (ACode.gh [] ZH2)::ZNj,defs:=[],rnd:=some (49902,1),ret:=false,res:=[] },{ fn:=119,N:=31,env:=[(0,AV.yld 49902 1),(1,AV.ptr 96003 0 0 0),(2,AV.ptr 96004 0 0 0),(4,AV.int .i64 n5),(5,AV.int .i64 n9),(19,AV.yld 49902 1),(20,AV.list (.ints .i64 l4)),(21,AV.int .i64 n5),(22,AV.int .i64 n5),(23,AV.int .i64 n10),(24,AV.int .i64 n11),(25,AV.int .i64 n5),(26,AV.int .i64 n12),(27,AV.int .i64 n13),(28,AV.list (.ints .i64 l14))],todo:=AItem.inReg [oN 29 (OpK.icallv (Opd.t 19) [Opd.t 28]),oN 30 (OpK.not (Opd.t 29))]::.code (ACode.gh [Ghost.keep [0,1,2,4,30]] (ACode.cond (Opd.t 30) ACode.ret ACode.skip))::AItem.inBlock 1::.code (ACode.reg none [mV 10 4,oN 11 (OpK.load false 1 (Opd.t 2)),oN 12 (OpK.bin Go.BinOp.add (Opd.t 10) (Opd.t 11)),mV 4 12])::ZrQ,defs:=[],rnd:=none,ret:=false,res:=[] },{ fn:=49,N:=108,env:=[(2,AV.ptr 49003 0 0 0),(4,AV.ptr 49005 0 0 0),(5,AV.ptr 49006 0 0 0),(6,AV.ptr 49007 0 0 0),(10,AV.list (.ints .i64 l0)),(12,AV.ptr 49013 0 0 0),(57,AV.list (.ints .i64 l1)),(58,AV.fn 119 [AV.ptr 96003 0 0 0,AV.ptr 96004 0 0 0])],todo:=[AItem.inRF 49902 1,AItem.inBlock 0, .code (ACode.seq (ACode.reg none [oN 17 (OpK.alloc 49018 25 AV.nils)]) (ACode.gh [Ghost.ownc 17 49103 3 1 (.ints .i64 [])] (ACode.seq (ACode.reg none [oN 18 (OpK.alloc 49019 3 (AV.int .i64 0)),{ d:=none,g:=none,k:=OpK.store 1 (Opd.t 18) (cI 0) }]) (ACode.seq (ACode.seq (ACode.reg (some []) [oN 75 (OpK.load false 1 (Opd.t 12)),oN 76 (OpK.load false 1 (Opd.t 12)),oN 77 (OpK.len (Opd.t 76)),oN 78 (OpK.faddr 4 (Opd.t 2)),oN 79 (OpK.load false 1 (Opd.t 78)),oN 80 (OpK.bin Go.BinOp.quo (Opd.t 77) (Opd.t 79)),oN 81 (OpK.ncall true 49082 97 [Opd.t 75,Opd.t 80]),oN 82 (OpK.icall 96 [Opd.t 81,cI 15])]) (ACode.gh [Ghost.keep [2,4,5,6,17,18,82]] (ACode.block 4 (ACode.rf 49901 (Opd.t 82) [83] (ACode.reg none [mV 19 83]) (ACode.block 5 (ACode.seq (ACode.reg (some [(0,10),(1,10),(2,10),(3,10),(4,10),(5,10),(6,10),(7,10),(8,10),(8,11),(9,10),(9,11)]) [mV 85 19,oN 86 (OpK.s2a 15 (Opd.t 85)),oN 87 (OpK.load true 15 (Opd.t 86)),oN 88 (OpK.faddr 3 (Opd.t 2)),oN 89 (OpK.load false 1 (Opd.t 88)),oN 90 (OpK.ncall true 0 90 [Opd.t 87,Opd.t 89]),mV 84 90,oN 91 (OpK.ext 0 (Opd.t 84)),oN 92 (OpK.ext 1 (Opd.t 84)),oN 93 (OpK.ext 2 (Opd.t 84)),oN 20 (OpK.alloc 49021 107 (AV.agg (.ints .i64 [0,0,0,0,0,0,0,0,0,0,0,0,0,0,0]))),{ d:=none,g:=none,k:=OpK.store 15 (Opd.t 20) (Opd.t 91) },mV 21 92,mV 22 93]) (ACode.gh [Ghost.keep [2,4,5,6,17,18,20,21,22]] (ACode.seq (ACode.seq (ACode.reg none [mV 94 22,oN 95 (OpK.not (Opd.t 94))]) (ACode.cond (Opd.t 95) (ACode.seq (ACode.reg none [{ d:=none,g:=none,k:=OpK.store 1 (Opd.t 4) (Opd.c AV.nils) },{ d:=none,g:=none,k:=OpK.store 1 (Opd.t 5) (cI 0) },{ d:=none,g:=none,k:=OpK.store 1 (Opd.t 6) (cI 27) }]) ACode.ret) ACode.skip)) (ACode.seq (ACode.reg (some []) [oN 96 (OpK.load false 1 (Opd.t 17)),oN 97 (OpK.faddr 3 (Opd.t 2)),oN 98 (OpK.load false 1 (Opd.t 97)),oN 99 (OpK.bin Go.BinOp.mul (cI 2) (Opd.t 98)),oN 100 (OpK.bin Go.BinOp.sub (cI 15) (Opd.t 99)),oN 101 (OpK.asl 15 (Opd.t 20) none (some (Opd.t 100))),oN 102 (OpK.append 49103 3 1 (Opd.t 96) (Opd.t 101)),{ d:=none,g:=none,k:=OpK.store 1 (Opd.t 17) (Opd.t 102) }]) (ACode.gh [Ghost.keep [2,4,5,6,17,18,21]] (ACode.reg none [oN 103 (OpK.load false 1 (Opd.t 18)),mV 104 21,oN 105 (OpK.bin Go.BinOp.add (Opd.t 103) (Opd.t 104)),{ d:=none,g:=none,k:=OpK.store 1 (Opd.t 18) (Opd.t 105) }]))))))))))) (ACode.seq (ACode.reg (some [(1,2)]) [oN 106 (OpK.load false 1 (Opd.t 17)),oN 107 (OpK.load false 1 (Opd.t 18)),{ d:=none,g:=none,k:=OpK.store 1 (Opd.t 4) (Opd.t 106) },{ d:=none,g:=none,k:=OpK.store 1 (Opd.t 5) (Opd.t 107) },{ d:=none,g:=none,k:=OpK.store 1 (Opd.t 6) (cI 0) }]) ACode.ret)))))],defs:=[(49902,0)],rnd:=none,ret:=false,res:=[ARes.cell 4 false 1,ARes.cell 5 false 1,ARes.cell 6 false 1] }]
def ZhC(m p q h D:Int)(l0 l1 l2 l3 l4:List Int)(n5:Int)(l6 l7:List Int)(n8 n9 n10 n11 n12 n13:Int)(l14:List Int)(n15 n16:Int):Zaa:=[(49003,{ base:=0,blks:=[Blk.row 78 5 (Row.gen [AV.agg (Row.gen [AV.int .i64 m,AV.int .i64 p,AV.int .i64 q,AV.int .i64 h,AV.int .i64 D])])] }),(49005,{ base:=0,blks:=[Blk.row 25 1 (Row.gen [AV.nils])] }),(49006,{ base:=0,blks:=[Blk.row 3 1 (Row.gen [.int .i64 0])] }),(49007,{ base:=0,blks:=[Blk.row 27 1 (Row.gen [.int .i64 0])] }),(49013,{ base:=0,blks:=[Blk.row 25 1 (Row.gen [.row 49075 0])] }),(49075,{ base:=0,blks:=[Blk.row 3 1 (.ints .i64 l6)] }),(49902,{ base:=0,blks:=[Blk.dfr,Blk.lp { st:=RSt.busy,fn:=49,N:=108,env:=[(2,AV.ptr 49003 0 0 0),(4,AV.ptr 49005 0 0 0),(5,AV.ptr 49006 0 0 0),(6,AV.ptr 49007 0 0 0),(10,AV.list (.ints .i64 l2)),(12,AV.ptr 49013 0 0 0),(57,AV.list (.ints .i64 l3)),(58,AV.fn 119 [AV.ptr 96003 0 0 0,AV.ptr 96004 0 0 0])],params:=[59],asg:=ACode.reg none [mV 13 59],body:=ACode.block 1 (ACode.seq (ACode.reg none [oN 14 (OpK.mov (cI 0))]) (ACode.seq (ACode.seq (ACode.reg none [mV 60 13,oN 61 (OpK.len (Opd.t 60)),oN 62 (OpK.mov (cI 0))]) (ACode.block 2 (ACode.loop Zyy))) Zxd)) }] }),(96003,{ base:=0,blks:=[Blk.row 25 1 (Row.gen [.list (.ints .i64 l4)])] }),(96004,{ base:=0,blks:=[Blk.row 3 1 (Row.gen [.int .i64 4])] })]
abbrev ZkX(m p q h D:Int)(l0 l1 l2 l3 l4:List Int)(n5:Int)(l6 l7:List Int)(n8 n9 n10 n11 n12 n13:Int)(l14:List Int)(n15 n16:Int):List AFrame×Zaa:=(ZkP m p q h D l0 l1 l2 l3 l4 n5 l6 l7 n8 n9 n10 n11 n12 n13 l14 n15 n16,ZhC m p q h D l0 l1 l2 l3 l4 n5 l6 l7 n8 n9 n10 n11 n12 n13 l14 n15 n16)
def Zhs(m p q h D:Int)(l17:List Int)(n18 n19:Int)(l20:List Int):List AFrame:=[{ fn:=119,N:=31,env:=[(0,AV.yld 49901 1),(1,AV.ptr 96003 0 0 0),(2,AV.ptr 96004 0 0 0),(4,AV.int .i64 n18)],todo:=.code (ACode.gh [] ZqB)::ZrQ,defs:=[],rnd:=none,ret:=false,res:=[] },{ fn:=49,N:=108,env:=[(2,AV.ptr 49003 0 0 0),(4,AV.ptr 49005 0 0 0),(5,AV.ptr 49006 0 0 0),(6,AV.ptr 49007 0 0 0),(17,AV.ptr 49018 0 0 0),(18,AV.ptr 49019 0 0 0),(82,AV.fn 119 [AV.ptr 96003 0 0 0,AV.ptr 96004 0 0 0])],todo:=[AItem.inRF 49901 1,AItem.inBlock 4, .code (ACode.seq (ACode.reg (some [(1,2)]) [oN 106 (OpK.load false 1 (Opd.t 17)),oN 107 (OpK.load false 1 (Opd.t 18)),{ d:=none,g:=none,k:=OpK.store 1 (Opd.t 4) (Opd.t 106) },{ d:=none,g:=none,k:=OpK.store 1 (Opd.t 5) (Opd.t 107) },{ d:=none,g:=none,k:=OpK.store 1 (Opd.t 6) (cI 0) }]) ACode.ret)],defs:=[(49901,0),(49902,0)],rnd:=none,ret:=false,res:=[ARes.cell 4 false 1,ARes.cell 5 false 1,ARes.cell 6 false 1] }]
def ZfH(m p q h D:Int)(l17:List Int)(n18 n19:Int)(l20:List Int):Zaa:=[(49003,{ base:=0,blks:=[Blk.row 78 5 (Row.gen [AV.agg (Row.gen [AV.int .i64 m,AV.int .i64 p,AV.int .i64 q,AV.int .i64 h,AV.int .i64 D])])] }),(49005,{ base:=0,blks:=[Blk.row 25 1 (Row.gen [AV.nils])] }),(49006,{ base:=0,blks:=[Blk.row 3 1 (Row.gen [.int .i64 0])] }),(49007,{ base:=0,blks:=[Blk.row 27 1 (Row.gen [.int .i64 0])] }),(49018,{ base:=0,blks:=[Blk.row 25 1 (Row.gen [.row 49103 0])] }),(49019,{ base:=0,blks:=[Blk.row 3 1 (Row.gen [.int .i64 n19])] }),(49082,{ base:=0,blks:=[Blk.row 3 1 (.ints .i64 l17)] }),(49103,{ base:=0,blks:=[Blk.row 3 1 (.ints .i64 l20)] }),(49901,{ base:=0,blks:=[Blk.dfr,Blk.lp { st:=RSt.ready,fn:=49,N:=108,env:=[(2,AV.ptr 49003 0 0 0),(4,AV.ptr 49005 0 0 0),(5,AV.ptr 49006 0 0 0),(6,AV.ptr 49007 0 0 0),(17,AV.ptr 49018 0 0 0),(18,AV.ptr 49019 0 0 0),(82,AV.fn 119 [AV.ptr 96003 0 0 0,AV.ptr 96004 0 0 0])],params:=[83],asg:=ACode.reg none [mV 19 83],body:=ACode.block 5 (ACode.seq (ACode.reg (some [(0,10),(1,10),(2,10),(3,10),(4,10),(5,10),(6,10),(7,10),(8,10),(8,11),(9,10),(9,11)]) [mV 85 19,oN 86 (OpK.s2a 15 (Opd.t 85)),oN 87 (OpK.load true 15 (Opd.t 86)),oN 88 (OpK.faddr 3 (Opd.t 2)),oN 89 (OpK.load false 1 (Opd.t 88)),oN 90 (OpK.ncall true 0 90 [Opd.t 87,Opd.t 89]),mV 84 90,oN 91 (OpK.ext 0 (Opd.t 84)),oN 92 (OpK.ext 1 (Opd.t 84)),oN 93 (OpK.ext 2 (Opd.t 84)),oN 20 (OpK.alloc 49021 107 (AV.agg (.ints .i64 [0,0,0,0,0,0,0,0,0,0,0,0,0,0,0]))),{ d:=none,g:=none,k:=OpK.store 15 (Opd.t 20) (Opd.t 91) },mV 21 92,mV 22 93]) (ACode.gh [Ghost.keep [2,4,5,6,17,18,20,21,22]] (ACode.seq (ACode.seq (ACode.reg none [mV 94 22,oN 95 (OpK.not (Opd.t 94))]) (ACode.cond (Opd.t 95) (ACode.seq (ACode.reg none [{ d:=none,g:=none,k:=OpK.store 1 (Opd.t 4) (Opd.c AV.nils) },{ d:=none,g:=none,k:=OpK.store 1 (Opd.t 5) (cI 0) },{ d:=none,g:=none,k:=OpK.store 1 (Opd.t 6) (cI 27) }]) ACode.ret) ACode.skip)) (ACode.seq (ACode.reg (some []) [oN 96 (OpK.load false 1 (Opd.t 17)),oN 97 (OpK.faddr 3 (Opd.t 2)),oN 98 (OpK.load false 1 (Opd.t 97)),oN 99 (OpK.bin Go.BinOp.mul (cI 2) (Opd.t 98)),oN 100 (OpK.bin Go.BinOp.sub (cI 15) (Opd.t 99)),oN 101 (OpK.asl 15 (Opd.t 20) none (some (Opd.t 100))),oN 102 (OpK.append 49103 3 1 (Opd.t 96) (Opd.t 101)),{ d:=none,g:=none,k:=OpK.store 1 (Opd.t 17) (Opd.t 102) }]) (ACode.gh [Ghost.keep [2,4,5,6,17,18,21]] (ACode.reg none [oN 103 (OpK.load false 1 (Opd.t 18)),mV 104 21,oN 105 (OpK.bin Go.BinOp.add (Opd.t 103) (Opd.t 104)),{ d:=none,g:=none,k:=OpK.store 1 (Opd.t 18) (Opd.t 105) }])))))) }] }),(49902,{ base:=0,blks:=[Blk.dfr] }),(96003,{ base:=0,blks:=[Blk.row 25 1 (Row.gen [.row 49082 0])] }),(96004,{ base:=0,blks:=[Blk.row 3 1 (Row.gen [.int .i64 15])] })]
abbrev Zkl(m p q h D:Int)(l17:List Int)(n18 n19:Int)(l20:List Int):List AFrame×Zaa:=(Zhs m p q h D l17 n18 n19 l20,ZfH m p q h D l17 n18 n19 l20)
def Zwx(A:Ar)(K:KT)(F:FT)(m p q h D:Int)(l:List Int):Prop:=bB (A.not (A.eq (lkE m p q h D) 0)) (F (AV.tup [AV.nils,AV.int .i64 0,AV.int .i64 (lkE m p q h D)]) (none)) (rB [decide (List.length [Zam (A.eq (A.int (A.len l)) (A.mul 2 (A.add (A.mul (A.mul D 15) 4) m))) 10,ZaP l (-7) 7]≤1000000),List.all [AV.int .i64 (Zam (A.eq (A.int (A.len l)) (A.mul 2 (A.add (A.mul (A.mul D 15) 4) m))) 10),AV.int .i64 (ZaP l (-7) 7)] fun x=>AV.bx x&&Nat.beq (Zag A x) 1,decide (List.length l≤1000000),A.inR .i64 (A.mul 2 (A.add (A.mul (A.mul D 15) 4) m)),A.inR .i64 (A.add (A.mul (A.mul D 15) 4) m),A.inR .i64 (A.mul (A.mul D 15) 4),A.inR .i64 (A.mul D 15)] (bB (A.not (A.eq (ZaD [Zam (A.eq (A.int (A.len l)) (A.mul 2 (A.add (A.mul (A.mul D 15) 4) m))) 10,ZaP l (-7) 7]) 0)) (F (AV.tup [AV.nils,AV.int .i64 0,AV.int .i64 (ZaD [Zam (A.eq (A.int (A.len l)) (A.mul 2 (A.add (A.mul (A.mul D 15) 4) m))) 10,ZaP l (-7) 7])]) (none)) (rB [decide (okI m p q l=true)] (rB [!A.lt 4 1] (K (Zjy (m) (p) (q) (h) (D) (blI m p q l) (blI m p q l) (blI m p q l) (blI m p q l) (blI m p q l) (0) ([])))))))
theorem ZLx{A:Ar}{K:KT}{F:FT}{M:MT}{m p q h D:Int}{l:List Int} :Zaj A tab Ko 49 K F M (.run 19 (.tf (.run 8 (.fn)) (.run 35 (.tf (.run 8 (.fn)) (.run 38 (.fy (.run 18 (.hd)))))))) (ZPI m p q h D l) []=Zwx A K F m p q h D l:=by kernel_rfl
def ZfI(A:Ar)(K:KT)(F:FT)(m p q h D:Int)(l0 l1 l2 l3 l4:List Int)(n5:Int)(l6:List Int):Prop:=bB (A.lt n5 (A.int (A.len l4))) (rB [Zae (Zae (A.le 0 n5) (A.le 0 (A.add n5 (A.min 4 (A.int (A.len (A.sub3 l4 (A.nat n5) (A.len l4-A.nat n5)))))))) (Zae (Zae (Nat.ble (A.nat n5) (A.nat (A.add n5 (A.min 4 (A.int (A.len (A.sub3 l4 (A.nat n5) (A.len l4-A.nat n5)))))))) (Nat.ble (A.nat (A.add n5 (A.min 4 (A.int (A.len (A.sub3 l4 (A.nat n5) (A.len l4-A.nat n5))))))) (A.len l4))) (Zae (A.le 0 (A.add n5 (A.min 4 (A.int (A.len (A.sub3 l4 (A.nat n5) (A.len l4-A.nat n5))))))) (Zae (Nat.ble (A.nat (A.add n5 (A.min 4 (A.int (A.len (A.sub3 l4 (A.nat n5) (A.len l4-A.nat n5))))))) (A.nat (A.add n5 (A.min 4 (A.int (A.len (A.sub3 l4 (A.nat n5) (A.len l4-A.nat n5)))))))) (Nat.ble (A.nat (A.add n5 (A.min 4 (A.int (A.len (A.sub3 l4 (A.nat n5) (A.len l4-A.nat n5))))))) (A.len l4))))),A.inR .i64 (A.add n5 (A.min 4 (A.int (A.len (A.sub3 l4 (A.nat n5) (A.len l4-A.nat n5)))))),A.inR .i64 (A.add n5 (A.min 4 (A.int (A.len (A.sub3 l4 (A.nat n5) (A.len l4-A.nat n5)))))),Zae (Zae (A.le 0 n5) true) (Zae (Zae (Nat.ble (A.nat n5) (A.len l4)) (Nat.ble (A.len l4) (A.len l4))) true)] (K (ZkX (m) (p) (q) (h) (D) (l0) (l1) (l2) (l3) (l4) (n5) (l6) (A.sub3 l4 (A.nat n5) (A.nat (A.add n5 (A.min 4 (A.int (A.len (A.sub3 l4 (A.nat n5) (A.len l4-A.nat n5))))))-A.nat n5)) (A.int (A.len (A.sub3 l4 (A.nat n5) (A.nat (A.add n5 (A.min 4 (A.int (A.len (A.sub3 l4 (A.nat n5) (A.len l4-A.nat n5))))))-A.nat n5)))) (A.min 4 (A.int (A.len (A.sub3 l4 (A.nat n5) (A.len l4-A.nat n5))))) (A.min 4 (A.int (A.len (A.sub3 l4 (A.nat n5) (A.len l4-A.nat n5))))) (A.add n5 (A.min 4 (A.int (A.len (A.sub3 l4 (A.nat n5) (A.len l4-A.nat n5)))))) (A.min 4 (A.int (A.len (A.sub3 l4 (A.nat n5) (A.len l4-A.nat n5))))) (A.add n5 (A.min 4 (A.int (A.len (A.sub3 l4 (A.nat n5) (A.len l4-A.nat n5)))))) (A.sub3 l4 (A.nat n5) (A.nat (A.add n5 (A.min 4 (A.int (A.len (A.sub3 l4 (A.nat n5) (A.len l4-A.nat n5))))))-A.nat n5)) (0) (0)))) (rB [decide (rcB l6 (A.quo (A.int (A.len l6)) D)=true),Zae (A.not (A.eq D 0)) (A.inR .i64 (A.quo (A.int (A.len l6)) D))] (rB [!A.lt 15 1] (K (Zkl (m) (p) (q) (h) (D) (tS l6 (Int.toNat (A.quo (A.int (A.len l6)) D))) (0) (0) ([])))))
theorem Zkj{A:Ar}{K:KT}{F:FT}{M:MT}{m p q h D:Int}{l0 l1 l2 l3 l4:List Int}{n5:Int}{l6:List Int} :Zaj A tab Ko 49 K F M (.run 9 (.tf (.run 38 (.hd)) (.run 31 (.fy (.run 19 (.hd)))))) (ZeX m p q h D l0 l1 l2 l3 l4 n5 l6) (ZdP m p q h D l0 l1 l2 l3 l4 n5 l6)=ZfI A K F m p q h D l0 l1 l2 l3 l4 n5 l6:=by kernel_rfl
def Zhv(A:Ar)(K:KT)(F:FT)(m p q h D:Int)(l0 l1 l2 l3 l4:List Int)(n5:Int)(l6 l7:List Int)(n8 n9 n10 n11 n12 n13:Int)(l14:List Int)(n15 n16:Int):Prop:=bB (A.lt n16 n8) (rB [A.inR .i64 (A.add n16 1),Zae (Zae (A.le 0 1) (Nat.blt (A.nat 1) 64)) (A.inR .i64 (A.shl n15 1)),Zae (Zae (A.le 0 n16) (Nat.blt (A.nat n16) (A.len l7))) true] (K (ZkX (m) (p) (q) (h) (D) (l0) (l1) (l2) (l3) (l4) (n5) (l6) (l7) (n8) (n9) (n10) (n11) (n12) (n13) (l14) (A.bits Go.BinOp.or .i64 (A.shl n15 1) (A.nth l7 (A.nat n16))) (A.add n16 1)))) (rB [Nat.ble (A.len l6+A.len [n15]) 4294967296,List.all [AV.int .i64 n15] fun x=>AV.bx x&&Nat.beq (Zag A x) 1] (rB [!A.not true] (rB [A.inR .i64 (A.add n5 4)] (K (Zjy (m) (p) (q) (h) (D) (l0) (l1) (l2) (l3) (l4) (A.add n5 4) (A.app l6 [n15]))))))
theorem ZlG{A:Ar}{K:KT}{F:FT}{M:MT}{m p q h D:Int}{l0 l1 l2 l3 l4:List Int}{n5:Int}{l6 l7:List Int}{n8 n9 n10 n11 n12 n13:Int}{l14:List Int}{n15 n16:Int} :Zaj A tab Ko 49 K F M (.run 6 (.tf (.run 23 (.hd)) (.run 13 (.fy (.run 10 (.hd)))))) (ZkP m p q h D l0 l1 l2 l3 l4 n5 l6 l7 n8 n9 n10 n11 n12 n13 l14 n15 n16) (ZhC m p q h D l0 l1 l2 l3 l4 n5 l6 l7 n8 n9 n10 n11 n12 n13 l14 n15 n16)=Zhv A K F m p q h D l0 l1 l2 l3 l4 n5 l6 l7 n8 n9 n10 n11 n12 n13 l14 n15 n16:=by kernel_rfl
def Zdx(A:Ar)(K:KT)(F:FT)(m p q h D:Int)(l17:List Int)(n18 n19:Int)(l20:List Int):Prop:=bB (A.lt n18 (A.int (A.len l17))) (rB [Nat.beq (A.len (deV h (A.sub3 l17 (A.nat n18) 15))) 15,Nat.blt 0 (A.len [0,0,0,0,0,0,0,0,0,0,0,0,0,0,0]),decide (okw (A.sub3 l17 (A.nat n18) 15)=true∧hfB h=true),Zae (Nat.ble (A.nat n18+15) (A.len l17)) true,Nat.ble 15 (A.nat (A.add n18 (A.min 15 (A.int (A.len (A.sub3 l17 (A.nat n18) (A.len l17-A.nat n18))))))-A.nat n18),Zae (Zae (A.le 0 n18) (A.le 0 (A.add n18 (A.min 15 (A.int (A.len (A.sub3 l17 (A.nat n18) (A.len l17-A.nat n18)))))))) (Zae (Zae (Nat.ble (A.nat n18) (A.nat (A.add n18 (A.min 15 (A.int (A.len (A.sub3 l17 (A.nat n18) (A.len l17-A.nat n18)))))))) (Nat.ble (A.nat (A.add n18 (A.min 15 (A.int (A.len (A.sub3 l17 (A.nat n18) (A.len l17-A.nat n18))))))) (A.len l17))) (Zae (A.le 0 (A.add n18 (A.min 15 (A.int (A.len (A.sub3 l17 (A.nat n18) (A.len l17-A.nat n18))))))) (Zae (Nat.ble (A.nat (A.add n18 (A.min 15 (A.int (A.len (A.sub3 l17 (A.nat n18) (A.len l17-A.nat n18))))))) (A.nat (A.add n18 (A.min 15 (A.int (A.len (A.sub3 l17 (A.nat n18) (A.len l17-A.nat n18)))))))) (Nat.ble (A.nat (A.add n18 (A.min 15 (A.int (A.len (A.sub3 l17 (A.nat n18) (A.len l17-A.nat n18))))))) (A.len l17))))),A.inR .i64 (A.add n18 (A.min 15 (A.int (A.len (A.sub3 l17 (A.nat n18) (A.len l17-A.nat n18)))))),A.inR .i64 (A.add n18 (A.min 15 (A.int (A.len (A.sub3 l17 (A.nat n18) (A.len l17-A.nat n18)))))),Nat.ble (A.nat n18+(A.len l17-A.nat n18)) (A.len l17),Zae (Zae (A.le 0 n18) true) (Zae (Zae (Nat.ble (A.nat n18) (A.len l17)) (Nat.ble (A.len l17) (A.len l17))) true)] (bB (A.not (Option.isSome (deO h (A.sub3 l17 (A.nat n18) 15)))) (rB [A.not false] (F (AV.tup [AV.nils,AV.int .i64 0,AV.int .i64 27]) (none))) (rB [A.inR .i64 (A.add n19 (deN h (A.sub3 l17 (A.nat n18) 15))),Zae (Zae (Zae (Nat.ble (0+(A.nat (A.sub 15 (A.mul 2 h))-0)) (A.len (deV h (A.sub3 l17 (A.nat n18) 15)))) true) true) (Nat.ble (A.len l20+A.len (A.sub3 (deV h (A.sub3 l17 (A.nat n18) 15)) 0 (A.nat (A.sub 15 (A.mul 2 h))-0))) 4294967296),Zae (A.le 0 (A.sub 15 (A.mul 2 h))) (Zae (Nat.ble 0 (A.nat (A.sub 15 (A.mul 2 h)))) (Nat.ble (A.nat (A.sub 15 (A.mul 2 h))) 15)),A.inR .i64 (A.sub 15 (A.mul 2 h)),A.inR .i64 (A.mul 2 h)] (rB [!A.not true] (rB [A.inR .i64 (A.add n18 15)] (K (Zkl (m) (p) (q) (h) (D) (l17) (A.add n18 15) (A.add n19 (deN h (A.sub3 l17 (A.nat n18) 15))) (A.app l20 (A.sub3 (deV h (A.sub3 l17 (A.nat n18) 15)) 0 (A.nat (A.sub 15 (A.mul 2 h))-0)))))))))) (F (AV.tup [AV.row 0 0,AV.int .i64 n19,AV.int .i64 0]) (some { e:=3,sz:=1,r:=.ints .i64 l20 }))
theorem Zfx{A:Ar}{K:KT}{F:FT}{M:MT}{m p q h D:Int}{l17:List Int}{n18 n19:Int}{l20:List Int} :Zaj A tab Ko 49 K F M (.run 9 (.tf (.run 33 (.tf (.run 10 (.ty (.run 6 (.fn)))) (.run 15 (.fy (.run 10 (.hd)))))) (.run 10 (.fn)))) (Zhs m p q h D l17 n18 n19 l20) (ZfH m p q h D l17 n18 n19 l20)=Zdx A K F m p q h D l17 n18 n19 l20:=by kernel_rfl
end Go.Proofs.Ytklbmkllepkjcaa
/- Words of the code: what is filled, how far words are apart. No condition. -/
namespace Go.Proofs.Ytklbmkllepkjcaa
def ZoY(j:Nat)(w:Nat→Nat):Nat:=dt w (fun i=>ZbH (j*(14-i))) 15
theorem ZgX(j:Nat):El (fun i=>ZbH (j*(14-i))):=fun _=>Zcc _
def wfn(w:List Int)(i:Nat):Nat:=(w.getD i 0).toNat
theorem ZdX{w:List Int}(h:ZaP w 0 15=0):El (wfn w):=fun i=>by
 have:=of_decide_eq_true (ZiV h i)
 unfold wfn;omega
theorem ZtR(j:Nat){w:List Int}(hl:w.length=15):∀n,n≤15→dt (wfn w) (fun i=>ZbH (j*(14-i))) n ^^^ Zth j n ((wdN w).drop n)=Zth j 0 (wdN w)
 |0,_=>by rw[dt,List.drop_zero,Nat.zero_xor]
 |n+1,hn=>by
  rw[←ZtR j hl n (by omega),Zui (show n<w.length by omega),Zth,dt,Nat.xor_assoc];rfl
theorem Zi7{w:List Int}(hl:w.length=15)(j:Nat):syI w j=((ZoY j (wfn w):Nat):Int):=by
 have h:=ZtR j hl 15 (Nat.le_refl _)
 rw[List.drop_of_length_le (by rw[ZvZ];omega),Zth,Nat.xor_zero]at h
 unfold syI ZoY;rw[h]
theorem Zuw{h:Int}{w:List Int}(hl:w.length=15):isW h w=true↔∀j,j<2*h.toNat→ZoY (j+1) (wfn w)=0:=by
 unfold isW syL
 rw[List.all_eq_true]
 constructor
 ·intro a j hj
  have:=a (syI w (j+1)) (List.mem_map.2 ⟨j,List.mem_range.2 hj,rfl⟩)
  rw[decide_eq_true_eq,Zi7 hl]at this
  omega
 ·intro a x hx
  obtain⟨j,hj,rfl⟩:=List.mem_map.1 hx
  rw[decide_eq_true_eq,Zi7 hl,a j (List.mem_range.1 hj)];rfl
def upd(w:Nat→Nat)(p v:Nat):Nat→Nat:=fun i=>if i=p then v else w i
theorem ZvM{w g:Nat→Nat}{p v:Nat}(h0:w p=0)(hw:El w)(hg:El g)(hv:v<16):∀n,dt (upd w p v) g n=dt w g n ^^^ (if p<n then Zav v (g p)else 0)
 |0=>by simp[dt]
 |n+1=>by
  rw[dt,dt,ZvM h0 hw hg hv n]
  unfold upd
  by_cases hp:n=p
  ·subst hp
   rw[if_pos rfl,if_neg (Nat.lt_irrefl _),if_pos (by omega),h0,ZdZ (hg n),Nat.xor_zero]
  ·rw[if_neg hp]
   by_cases hlt:p<n
   ·rw[if_pos hlt,if_pos (by omega),Nat.xor_assoc,Nat.xor_assoc,Nat.xor_comm (Zav v (g p))]
   ·rw[if_neg hlt,if_neg (by omega),Nat.xor_zero,Nat.xor_zero]
theorem ZrD{a b g:Nat→Nat}(ha:El a)(hb:El b)(hg:El g):∀n,dt (fun i=>a i ^^^ b i) g n=dt a g n ^^^ dt b g n
 |0=>by simp[dt]
 |n+1=>by rw[dt,dt,dt,ZrD ha hb hg n,Zc2 (ha n) (hb n) (hg n),ZmY]
theorem ZnC:∀(g:Nat→Nat),El g→∀(qs:List Nat),(∀p∈qs,p<15)→qs.Nodup→∀(b:Nat→Nat),El b→(∀i,i<15→i∉qs→b i=0)→dt b g 15=dt (fun k=>b (qs.getD k 0)) (fun k=>g (qs.getD k 0)) qs.length:=by
 intro g hg qs
 induction qs with
 |nil=>
  intro _ _ b hb hz
  rw[List.length_nil,dt]
  exact Znp hg 15 (fun j hj=>hz j hj (by simp))
 |cons p qs ih=>
  intro h1 h2 b hb hz
  have hpq:p∉qs:=(List.nodup_cons.1 h2).1
  have hbe:El (upd b p 0):=fun i=>by unfold upd;split;decide;exact hb i
  have e:dt b g 15=dt (upd b p 0) g 15 ^^^ Zav (b p) (g p):=by
   have u:=ZvM (w:=upd b p 0) (g:=g) (p:=p) (v:=b p) (by simp[upd]) hbe hg (hb p) 15
   rw[if_pos (h1 p List.mem_cons_self)]at u
   rw[←u]
   refine ZaM _ (fun j _=>?_) (fun _ _=>rfl)
   unfold upd
   by_cases hj:j=p
   ·subst hj;rw[if_pos rfl]
   ·rw[if_neg hj,if_neg hj]
  rw[e,ih (fun q hq=>h1 q (List.mem_cons_of_mem _ hq)) (List.nodup_cons.1 h2).2 (upd b p 0) hbe (fun i hi hn=>by
   unfold upd
   by_cases hip:i=p
   ·rw[if_pos hip]
   ·rw[if_neg hip];exact hz i hi (by simp[hip,hn]))]
  have e2:∀n,dt (fun k=>b ((p::qs).getD k 0)) (fun k=>g ((p::qs).getD k 0)) (n+1)=Zav (b p) (g p) ^^^ dt (fun k=>b (qs.getD k 0)) (fun k=>g (qs.getD k 0)) n:=by
   intro n
   induction n with
   |zero=>rw[dt,dt,dt,Nat.zero_xor,Nat.xor_zero];rfl
   |succ n ih2=>rw[dt,ih2,dt,Nat.xor_assoc];rfl
  rw[List.length_cons,e2,Nat.xor_comm]
  congr 1
  refine ZaM _ (fun j hj=>?_) (fun _ _=>rfl)
  unfold upd
  rw[if_neg]
  intro hq
  exact hpq (hq▸Zbq hj)
theorem Zut{m:Nat}{c:Nat→Nat}(hc:El c)(ps:List Nat)(hp:∀p∈ps,p<15)(hd:ps.Nodup)(hl:ps.length≤m)(hz:∀i,i<15→i∉ps→c i=0)(hs:∀j,j<m→ZoY (j+1) c=0):∀i,i<15→c i=0:=by
 have hX:El (fun k=>ZbH (14-ps.getD k 0)):=fun _=>Zcc _
 have hC:El (fun k=>c (ps.getD k 0)):=fun _=>hc _
 have hv:=ZK1 ps.length (fun k=>c (ps.getD k 0)) (fun k=>ZbH (14-ps.getD k 0)) 1 hC hX (fun _ _=>ZsB _) (fun i j hi hj he=>by
  have a:=hp _ (Zbq (d:=0) hi)
  have b:=hp _ (Zbq (d:=0) hj)
  have:=Zqw (by omega) (by omega) he
  have he2:ps.getD i 0=ps.getD j 0:=by omega
  rw[List.getD_eq_getElem?_getD,List.getElem?_eq_getElem hi,List.getD_eq_getElem?_getD,List.getElem?_eq_getElem hj]at he2
  exact(List.getElem_inj hd).1 he2) (fun j hj=>by
  have s:=hs j (by omega)
  unfold ZoY at s
  rw[ZnC _ (ZgX (j+1)) ps hp hd c hc hz]at s
  refine Eq.trans ?_ s
  exact ZaM _ (fun _ _=>rfl) (fun k _=>by rw[Nat.add_comm 1 j,Zrv]))
 intro i hi
 by_cases hm:i∈ps
 ·obtain⟨k,hk,rfl⟩:=List.mem_iff_getElem.1 hm
  have:=hv k hk
  simpa[List.getD_eq_getElem?_getD,hk]using this
 ·exact hz i hi hm
end Go.Proofs.Ytklbmkllepkjcaa
/- What fills a word: the same word whoever fills it. No condition. -/
namespace Go.Proofs.Ytklbmkllepkjcaa
theorem Ztj(r y:Nat→Nat):∀n,dt r y (n+1)=Zav (r 0) (y 0) ^^^ dt (fun k=>r (k+1)) (fun k=>y (k+1)) n
 |0=>by rw[dt,dt,dt,Nat.zero_xor,Nat.xor_zero]
 |n+1=>by rw[dt,Ztj r y n,dt,Nat.xor_assoc]
theorem ZEz{w:List Int}(p:Nat)(v:Int)(hp:p<w.length):wfn (w.set p v)=upd (wfn w) p v.toNat:=by
 funext i
 unfold wfn upd
 rw[ZbN]
 by_cases h:i=p
 ·subst h;rw[if_pos ⟨rfl,hp⟩,if_pos rfl]
 ·rw[if_neg (fun a=>h a.1.symm),if_neg h]
def ZFn(e:List Int):Prop:=∀x∈e,0≤x∧x≤14
theorem ZjF{e:List Int}(h:ZFl e):ZFn e:=fun x hx=>by
 obtain⟨k,hk,rfl⟩:=List.mem_iff_getElem.1 hx
 have:=h k hk
 simpa[List.getD_eq_getElem?_getD,hk]using this
theorem Zoc{e:List Int}{p:Int}(h:erP p e=0):e.Nodup:=by
 refine List.pairwise_iff_getElem.2 fun i j hi hj hij=>?_
 have:=Znn h i j hij hj
 rw[List.getD_eq_getElem?_getD,List.getElem?_eq_getElem hi,List.getD_eq_getElem?_getD,List.getElem?_eq_getElem hj]at this
 exact Int.ne_of_lt this
theorem Zww:∀(e vs w:List Int) (p:Nat),ZFn e→(∀x∈e,x≠(p:Int))→(wrL w e vs).getD p 0=w.getD p 0
 |[],_,_,_,_,_=>by unfold wrL;rfl
 |_::_,[],_,_,_,_=>by unfold wrL;rfl
 |x::e,v::vs,w,p,h1,h2=>by
  rw[wrL,Zww e vs _ p (fun y hy=>h1 y (List.mem_cons_of_mem _ hy)) (fun y hy=>h2 y (List.mem_cons_of_mem _ hy)),ZbN,if_neg]
  intro a
  have b:=h1 x List.mem_cons_self
  have c:=h2 x List.mem_cons_self
  omega
theorem Zja:∀(e w:List Int) (p:Nat),ZFn e→(zrL w e).getD p 0=if(p:Int)∈e then 0 else w.getD p 0
 |[],_,_,_=>by simp[zrL]
 |x::e,w,p,h1=>by
  have b:=h1 x List.mem_cons_self
  rw[zrL,Zja e _ p (fun y hy=>h1 y (List.mem_cons_of_mem _ hy)),ZbN]
  by_cases hp:(p:Int)∈e
  ·rw[if_pos hp,if_pos (List.mem_cons_of_mem _ hp)]
  ·rw[if_neg hp]
   by_cases hx:x=(p:Int)
   ·subst hx
    rw[if_pos List.mem_cons_self]
    by_cases hl:p<w.length
    ·rw[if_pos ⟨by omega,hl⟩]
    ·rw[if_neg (fun a=>hl a.2),List.getD_eq_getElem?_getD,List.getElem?_eq_none (by omega)];rfl
   ·rw[if_neg (fun a=>hx (by omega)),if_neg (fun a=>(List.mem_cons.1 a).elim (fun a=>hx a.symm) hp)]
theorem ZBk(j:Nat):∀(e vs w:List Int),w.length=15→ZaP w 0 15=0→ZFn e→e.Nodup→vs.length=e.length→(∀i,elB (vs.getD i 0)=true)→(∀x∈e,w.getD x.toNat 0=0)→ZoY j (wfn (wrL w e vs))=ZoY j (wfn w) ^^^ dt (fun i=>ZbH (j*(14-(e.getD i 0).toNat))) (fun i=>(vs.getD i 0).toNat) e.length
 |[],vs,w,_,_,_,_,_,_,_=>by unfold wrL;rw[List.length_nil,dt,Nat.xor_zero]
 |x::e,[],_,_,_,_,_,h,_,_=>by cases h
 |x::e,v::vs,w,hl,hr,hp,hd,hv,he,hz=>by
  have b:=hp x List.mem_cons_self
  have v0:elB v=true:=he 0
  have v1:=of_decide_eq_true v0
  have hx:=(List.nodup_cons.1 hd).1
  rw[wrL,ZBk j e vs (w.set x.toNat v) (by rw[List.length_set,hl]) (ZpM hr _ v0) (fun y hy=>hp y (List.mem_cons_of_mem _ hy)) (List.nodup_cons.1 hd).2 (by simpa using hv) (fun i=>he (i+1)) (fun y hy=>by
   have b2:=hp y (List.mem_cons_of_mem _ hy)
   rw[ZbN,if_neg (fun a=>hx (by have e0:x=y:=(by omega);exact e0▸hy))]
   exact hz y (List.mem_cons_of_mem _ hy))]
  have w0:wfn w x.toNat=0:=by unfold wfn;rw[hz x List.mem_cons_self];rfl
  unfold ZoY
  rw[ZEz _ _ (by omega),ZvM w0 (ZdX hr) (ZgX j) (by omega),if_pos (show x.toNat<15 by omega),List.length_cons,Ztj _ _ e.length,Nat.xor_assoc]
  congr 2
  exact Zbh (a:=v.toNat) (show v.toNat<16 by omega) (Zcc _)
theorem ZFx:∀(e c:List Int),c.length=15→ZFn e→e.Nodup→∀w:List Int,w.length=15→(∀p:Nat,p<15→(p:Int)∉e→w.getD p 0=c.getD p 0)→wrL w e (e.map fun x=>c.getD x.toNat 0)=c
 |[],c,hc,_,_,w,hw,h=>by
  unfold wrL
  refine List.ext_getElem (by omega) fun i h1 h2=>?_
  have:=h i (by omega) (by simp)
  rwa[List.getD_eq_getElem?_getD,List.getElem?_eq_getElem h1,List.getD_eq_getElem?_getD,List.getElem?_eq_getElem h2]at this
 |x::e,c,hc,hp,hd,w,hw,h=>by
  have b:=hp x List.mem_cons_self
  rw[List.map_cons,wrL]
  refine ZFx e c hc (fun y hy=>hp y (List.mem_cons_of_mem _ hy)) (List.nodup_cons.1 hd).2 _ (by rw[List.length_set,hw]) fun p h1 h2=>?_
  rw[ZbN]
  by_cases hx:x.toNat=p
  ·subst hx;rw[if_pos ⟨rfl,by omega⟩]
  ·rw[if_neg (fun a=>hx a.1)]
   exact h p h1 (fun a=>(List.mem_cons.1 a).elim (fun a=>by omega) h2)
theorem ZGS{l e:List Int}(hl:ZaP l 0 15=0)(h15:l.length=15)(j:Nat){y:Nat→Nat}(h1:y e.length=1):dt (fiM l e j) y (e.length+1)=dt (fun i=>ZbH ((j+1)*(14-(e.getD i 0).toNat))) y e.length ^^^ ZoY (j+1) (wfn l):=by
 have e1:fiM l e j e.length=ZoY (j+1) (wfn l):=by
  unfold fiM
  rw[if_neg (Nat.lt_irrefl _),if_pos rfl]
  have:=Zi7 h15 (j+1)
  unfold syI at this
  omega
 rw[dt,h1,e1,ZiK (show ZoY (j+1) (wfn l)<16 from Zm5 (ZdX hl) (ZgX _) 15)]
 congr 1
 refine ZaM _ (fun i hi=>?_) (fun _ _=>rfl)
 unfold fiM
 rw[if_pos hi]
theorem ZNR{h:Int}{w e vs:List Int}(hg:fiG w h e=true)(hv:vs.length=e.length)(he:∀i,elB (vs.getD i 0)=true):ZA (fiM (zrL w e) e) (2*h.toNat) e.length (fun j=>if j<e.length then(vs.getD j 0).toNat else 1)↔isW h (wrL (zrL w e) e vs)=true:=by
 obtain⟨g1,g2,g3,g4,g5⟩:=ZiJ hg
 obtain⟨z2,z3⟩:=okw_iff.1 (ZlT e g1)
 rw[Zuw (by rw[ZjZ,z2])]
 refine forall_congr' fun j=>imp_congr_right fun _=>?_
 rw[ZGS z3 z2 j (if_neg (Nat.lt_irrefl _)),ZBk (j+1) e vs _ z2 z3 (ZjF g4) (Zoc g5) hv he (fun x hx=>by
  have:=ZjF g4 x hx
  rw[Zja e w x.toNat (ZjF g4),if_pos]
  rwa[Int.toNat_of_nonneg this.1]),Nat.xor_comm,ZaM (s:=fun i=>ZbH ((j+1)*(14-(e.getD i 0).toNat))) e.length (fun _ _=>rfl) (fun i hi=>if_pos hi)]
theorem Zqa{h:Int}{w e:List Int}(hg:fiG w h e=true):fiO h w e=isW h (fiW h w e):=by
 obtain⟨B,hB⟩:=Zns hg
 obtain⟨b1,b2,b3,b4⟩:=ZtL hg hB
 have q:=ZNR hg (ZdD B e.length e.length) (fun i=>Zpr b1 _ _ i)
 have hy:El (fun j=>if j<e.length then(((Zc7 B e.length e.length).getD j 0)).toNat else 1):=fun j=>by
  have:=of_decide_eq_true (Zpr b1 e.length e.length j)
  show(if j<e.length then((Zc7 B e.length e.length).getD j 0).toNat else 1)<16
  split<;>omega
 rw[←b4 _ hy,ZmW b1 b2 b3 hy (if_neg (Nat.lt_irrefl _))]at q
 have s0:∀j,j<e.length→(if j<e.length then((Zc7 B e.length e.length).getD j 0).toNat else 1)=B j e.length:=fun j hj=>by
  rw[if_pos hj]
  unfold Zc7
  rw[List.getD_eq_getElem?_getD,List.getElem?_map,List.getElem?_range hj];rfl
 have z:fiZ (2*h.toNat) e.length B=true↔∀i,e.length≤i→i<2*h.toNat→B i e.length=0:=by
  unfold fiZ
  rw[List.all_eq_true]
  constructor
  ·intro a i h1 h2
   have:=a i (List.mem_range.2 h2)
   rw[Bool.or_eq_true,decide_eq_true_eq,decide_eq_true_eq]at this
   rcases this with t |t
   ·omega
   ·exact t
  ·intro a i hi
   rw[Bool.or_eq_true,decide_eq_true_eq,decide_eq_true_eq]
   by_cases h1:i<e.length
   ·exact Or.inl h1
   ·exact Or.inr (a i (by omega) (List.mem_range.1 hi))
 unfold fiO fiW
 rw[hB]
 show fiZ _ _ B=isW h (wrL (zrL w e) e (Zc7 B e.length e.length))
 rw[Bool.eq_iff_iff,z,←q]
 exact⟨fun a=>⟨s0,a⟩,fun a=>a.2⟩
theorem ZQp{h:Int}{w e:List Int}(ho:fiO h w e=true):fiV h w e=fiW h w e:=by
 unfold fiO at ho
 unfold fiV fiW
 cases hB:fiB h w e with
 |none=>rw[hB]at ho;cases ho
 |some B=>rw[hB]at ho;exact if_pos ho
theorem ZDR{h:Int}{w e c:List Int}(hg:fiG w h e=true)(hc:okw c=true)(hw:isW h c=true)(ha:∀p:Nat,p<15→(p:Int)∉e→w.getD p 0=c.getD p 0):fiW h w e=c:=by
 obtain⟨g1,g2,g3,g4,g5⟩:=ZiJ hg
 obtain⟨z2,z3⟩:=okw_iff.1 (ZlT e g1)
 obtain⟨c2,c3⟩:=okw_iff.1 hc
 obtain⟨B,hB⟩:=Zns hg
 obtain⟨b1,b2,b3,b4⟩:=ZtL hg hB
 have hx:=ZFx e c c2 (ZjF g4) (Zoc g5) (zrL w e) z2 (fun p h1 h2=>by rw[Zja e w p (ZjF g4),if_neg h2];exact ha p h1 h2)
 have hel:∀i,elB ((e.map fun x=>c.getD x.toNat 0).getD i 0)=true:=fun i=>by
  rw[List.getD_eq_getElem?_getD,List.getElem?_map]
  cases hi:e[i]? with
  |none=>rfl
  |some x=>exact ZiV c3 x.toNat
 have q:=(ZNR hg (List.length_map _) hel).2 (by rw[hx];exact hw)
 have hy:El (fun j=>if j<e.length then((e.map fun x=>c.getD x.toNat 0).getD j 0).toNat else 1):=fun j=>by
  have:=of_decide_eq_true (hel j)
  show(if j<e.length then((e.map fun x=>c.getD x.toNat 0).getD j 0).toNat else 1)<16
  split<;>omega
 rw[←b4 _ hy,ZmW b1 b2 b3 hy (if_neg (Nat.lt_irrefl _))]at q
 have hs:Zc7 B e.length e.length=e.map fun x=>c.getD x.toNat 0:=by
  refine List.ext_getElem (by rw[ZdD,List.length_map]) fun i h1 h2=>?_
  have hi:i<e.length:=by rwa[List.length_map]at h2
  have a:=q.1 i hi
  rw[if_pos hi]at a
  have b:=of_decide_eq_true (hel i)
  rw[List.getD_eq_getElem?_getD,List.getElem?_eq_getElem h2]at a b
  have s:(Zc7 B e.length e.length)[i]=((B i e.length:Nat):Int):=by simp[Zc7]
  rw[s,←a]
  exact Int.toNat_of_nonneg b.1
 unfold fiW
 rw[hB]
 show wrL (zrL w e) e (Zc7 B e.length e.length)=c
 rw[hs,hx]
end Go.Proofs.Ytklbmkllepkjcaa
/- Roots of polynomials over the field of 16; sums of sums. No condition. -/
namespace Go.Proofs.Ytklbmkllepkjcaa
def hn(q:Nat→Nat)(x:Nat):Nat→Nat
 |0=>0
 |n+1=>Zav (hn q x n) x ^^^ q n
theorem ZkS{q:Nat→Nat}(hq:El q){x:Nat}(hx:x<16):∀n,hn q x n<16
 |0=>by rw[hn];decide
 |n+1=>Zcj (ZbJ (ZkS hq hx n) hx) (hq n)
theorem ZAb{q:Nat→Nat}(hq:El q){x a:Nat}(hx:x<16)(ha:a<16):∀n,hn q x (n+1) ^^^ hn q a (n+1)=Zav (hn (fun i=>hn q a (i+1)) x n) (x ^^^ a)
 |0=>by rw[hn,hn,hn,hn,hn,ZdZ hx,ZdZ ha,ZdZ (Zcj hx ha),Nat.xor_self]
 |n+1=>by
  have ih:=ZAb hq hx ha n
  have hq':El (fun i=>hn q a (i+1)):=fun i=>ZkS hq ha (i+1)
  have l1:=ZkS hq hx (n+1)
  have l2:=ZkS hq ha (n+1)
  have l3:=ZkS hq' hx n
  have e1:hn (fun i=>hn q a (i+1)) x (n+1)=Zav (hn (fun i=>hn q a (i+1)) x n) x ^^^ hn q a (n+1):=rfl
  have e2:hn q x (n+1)=hn q a (n+1) ^^^ Zav (hn (fun i=>hn q a (i+1)) x n) (x ^^^ a):=by
   rw[←ih,Nat.xor_comm (hn q x (n+1)),←Nat.xor_assoc,Nat.xor_self,Nat.zero_xor]
  have e3:∀k,hn q k (n+1+1)=Zav (hn q k (n+1)) k ^^^ q (n+1):=fun k=>rfl
  rw[e3,e3,e1,ZmY,Nat.xor_self,Nat.xor_zero,Zc2 (ZbJ l3 hx) l2 (Zcj hx ha),e2]
  generalize hn (fun i=>hn q a (i+1)) x n=P at*
  clear e2 e3 e1 ih l1
  generalize hn q a (n+1)=Q at*
  rw[Zc2 l2 (ZbJ l3 (Zcj hx ha)) hx,ZB3 hx ha l2,ZaJ l3 (Zcj hx ha) hx,ZaJ l3 hx (Zcj hx ha),Zbh (Zcj hx ha) hx]
  generalize Zav P _=PP
  rw[Nat.xor_assoc,Nat.xor_comm PP (Zav Q a),←Nat.xor_assoc,Nat.xor_comm]
theorem Zid:∀(n:Nat) (q X:Nat→Nat),El q→El X→(∀i j,i<n→j<n→X i=X j→i=j)→(∀k,k<n→hn q (X k) n=0)→∀i,i<n→q i=0
 |0,_,_,_,_,_,_,i,hi=>by omega
 |n+1,q,X,hq,hX,hd,hz,i,hi=>by
  have z:=hz n (by omega)
  have ih:=Zid n (fun i=>hn q (X n) (i+1)) X (fun i=>ZkS hq (hX n) (i+1)) hX (fun i j hi hj=>hd i j (by omega) (by omega)) (fun k hk=>by
   have s:=ZAb hq (hX k) (hX n) n
   rw[z,hz k (by omega),Nat.xor_self]at s
   rcases Zb1 (ZkS (q:=fun i=>hn q (X n) (i+1)) (fun i=>ZkS hq (hX n) (i+1)) (hX k) n) (Zcj (hX k) (hX n)) s.symm with h |h
   ·exact h
   ·have:=hd k n (by omega) (by omega) (Zm3 h);omega)
  have a:∀j,j≤n+1→hn q (X n) j=0:=fun j hj=>by
   cases j with
   |zero=>rfl
   |succ j=>
    by_cases h:j<n
    ·exact ih j h
    ·have:j=n:=by omega
     subst this;exact z
  have b:=a (i+1) (by omega)
  rw[hn,a i (by omega),ZdZ (hX n),Nat.zero_xor]at b
  exact b
theorem ZvI{x:Nat}(hx:x<16)(a:Nat):∀b,pw x (a+b)=Zav (pw x a) (pw x b)
 |0=>by rw[Nat.add_zero,pw,ZiK (Zbv hx a)]
 |b+1=>by
  rw[←Nat.add_assoc,pw,ZvI hx a b,pw,ZaJ (Zbv hx a) (Zbv hx b) hx]
theorem ZvS{E y:Nat→Nat}{f:Nat→Nat→Nat}(hE:El E)(hy:El y)(hf:∀k,El (f k))(t:Nat):∀n,dt (fun i=>dt E (fun k=>f k i) t) y n=dt E (fun k=>dt (f k) y n) t
 |0=>by
  rw[dt]
  exact(Zoo hE t (fun k _=>by rw[dt])).symm
 |n+1=>by
  rw[dt,ZvS hE hy hf t n]
  have hl:El (fun k=>dt (f k) y n):=fun k=>Zm5 (hf k) hy n
  have hr:El (fun k=>f k n):=fun k=>hf k n
  have hr2:El (fun k=>Zav (f k n) (y n)):=fun k=>ZbJ (hf k n) (hy n)
  have s:=Zgy hr hE (hy n) t
  rw[ZkF hE hl t,ZkF hE hr t,←s,←ZrD hl hr2 hE t,ZkF (fun k=>Zcj (hl k) (hr2 k)) hE t]
  exact ZaM _ (fun _ _=>rfl) (fun k _=>by rw[dt])
end Go.Proofs.Ytklbmkllepkjcaa
/- The locator polynomial: its equations have one solution, its roots are the places of the errors. No condition. -/
namespace Go.Proofs.Ytklbmkllepkjcaa
theorem Ztm{a b c d:Nat→Nat} :∀n,(∀k,k<n→Zav (a k) (b k)=Zav (c k) (d k))→dt a b n=dt c d n
 |0,_=>rfl
 |n+1,h=>by rw[dt,dt,Ztm n (fun k hk=>h k (by omega)),h n (by omega)]
theorem ZGf{y:Nat→Nat}(hy:El y){x:Nat}(hx:x<16):∀n,dt (fun i=>pw x (n-1-i)) y n=hn y x n
 |0=>rfl
 |n+1=>by
  have ih:=ZGf hy hx n
  rw[dt,hn,←ih,←Zgy (fun i=>Zbv hx _) hy hx]
  have e:Zav (pw x (n+1-1-n)) (y n)=y n:=by rw[show n+1-1-n=0 by omega,pw,Zoy (hy n)]
  rw[e]
  congr 1
  refine ZaM n (fun i hi=>?_) (fun _ _=>rfl)
  rw[show n+1-1-i=n-1-i+1 by omega,pw]
theorem ZrJ{q:Nat→Nat}(hq:El q){x:Nat}(hx:x<16):∀n,hn q x (n+1)=Zav (pw x n) (q 0) ^^^ hn (fun i=>q (i+1)) x n
 |0=>by rw[hn,hn,hn,ZdZ hx,pw,Zoy (hq 0),Nat.zero_xor,Nat.xor_zero]
 |n+1=>by
  have hq':El fun i=>q (i+1):=fun i=>hq (i+1)
  rw[hn,ZrJ hq hx n]
  show _=_ ^^^ (Zav (hn (fun i=>q (i+1)) x n) x ^^^ q (n+1))
  rw[Zc2 (ZbJ (Zbv hx n) (hq 0)) (ZkS hq' hx n) hx,pw,ZaJ (Zbv hx n) (hq 0) hx,ZaJ (Zbv hx n) hx (hq 0),Zbh (hq 0) hx,Nat.xor_assoc]
def gK(x u i:Nat):Nat:=if i<u then pw x (u-1-i)else pw x u
theorem ZxG{x:Nat}(hx:x<16)(u:Nat):El (gK x u):=fun i=>by unfold gK;split<;>exact Zbv hx _
def WK(x u:Nat)(y:Nat→Nat):Nat:=dt (gK x u) y (u+1)
theorem ZEB{y:Nat→Nat}(hy:El y){x:Nat}(hx:x<16)(u:Nat):WK x u y=hn y x u ^^^ Zav (pw x u) (y u):=by
 unfold WK
 rw[dt,←ZGf hy hx u]
 congr 1
 ·exact ZaM u (fun i hi=>by rw[gK,if_pos hi]) (fun _ _=>rfl)
 ·rw[gK,if_neg (Nat.lt_irrefl _)]
section
variable {E X:Nat→Nat}{t:Nat}{s:List Int}(hE:El E)(hX:El X)(h0:∀k,k<t→E k≠0)(hx0:∀k,k<t→X k≠0)(hd:∀i j,i<t→j<t→X i=X j→i=j)
 (hs:∀m,m<s.length→s.getD m 0=((dt E (fun k=>pw (X k) (m+1)) t:Nat):Int))
include hE hX hs
theorem ZtP(u:Nat){y:Nat→Nat}(hy:El y){j:Nat}(hj:j+u<s.length):dt (poM s u j) y (u+1)=dt (fun k=>Zav (E k) (WK (X k) u y)) (fun k=>pw (X k) (j+1)) t:=by
 have hf:∀k,El fun i=>Zav (gK (X k) u i) (pw (X k) (j+1)):=fun k i=>ZbJ (ZxG (hX k) u i) (Zbv (hX k) _)
 have e1:dt (poM s u j) y (u+1)=dt (fun i=>dt E (fun k=>Zav (gK (X k) u i) (pw (X k) (j+1))) t) y (u+1):=by
  refine ZaM _ (fun i hi=>?_) (fun _ _=>rfl)
  unfold poM
  by_cases h:i<u
  ·rw[if_pos h,hs _ (by omega),Int.toNat_natCast]
   refine ZaM t (fun _ _=>rfl) (fun k _=>?_)
   rw[gK,if_pos h,←ZvI (hX k)]
   congr 1;omega
  ·rw[if_neg h,if_pos (by omega),hs _ (by omega),Int.toNat_natCast]
   refine ZaM t (fun _ _=>rfl) (fun k _=>?_)
   rw[gK,if_neg h,←ZvI (hX k)]
   congr 1;omega
 rw[e1,ZvS hE hy hf]
 refine Ztm t fun k _=>?_
 rw[Zgy (ZxG (hX k) u) hy (Zbv (hX k) _),←ZaJ (hE k) (Zm5 (ZxG (hX k) u) hy _) (Zbv (hX k) _)]
 rfl
include h0 hx0 hd
theorem Zq3{y:Nat→Nat}(hy:El y)(h2:2*t≤s.length)(hz:∀j,j<t→dt (poM s t j) y (t+1)=0):∀k,k<t→WK (X k) t y=0:=fun k hk=>by
 have hW:El fun k=>WK (X k) t y:=fun k=>Zm5 (ZxG (hX k) t) hy _
 have:=ZK1 t (fun k=>Zav (E k) (WK (X k) t y)) X 1 (fun k=>ZbJ (hE k) (hW k)) hX hx0 hd (fun j hj=>by
  rw[←hz j hj,ZtP hE hX hs t hy (by omega),Nat.add_comm 1 j]) k hk
 rcases Zb1 (hE k) (hW k) this with h |h
 ·exact absurd h (h0 k hk)
 ·exact h
theorem ZE1{y:Nat→Nat}(hy:El y)(h2:2*t≤s.length)(hz:∀j,j<t→dt (poM s t j) y (t+1)=0)(h1:y t=0):∀k,k<t→y k=0:=
 Zid t y X hy hX hd fun k hk=>by
  have:=Zq3 hE hX h0 hx0 hd hs hy h2 hz k hk
  rw[ZEB hy (hX k),h1,Zcl (Zbv (hX k) _),Nat.xor_zero]at this
  exact this
theorem ZFI(hel:s.all elB=true)(h2:2*t≤s.length):∃B,poC s t=some (cN B t)∧ElM B∧∀k,k<t→WK (X k) t (fun j=>if j<t then B j t else 1)=0:=by
 have hA:=ZrX hel t
 have none_no:∀R,t≤R→elA R t 0 (poM s t)≠none:=fun R hR hn=>by
  obtain⟨y,y1,y2,y3,j,j1,j2⟩:=Zp0 (u:=t) t 0 _ hA (ZcR _ _) (by omega) hn
  exact j2 (ZE1 hE hX h0 hx0 hd hs y1 h2 (fun j hj=>y2 j (by omega)) y3 j j1)
 obtain⟨B,hB⟩:=Option.ne_none_iff_exists'.1 (none_no (s.length-t) (by omega))
 obtain⟨B',hB'⟩:=Option.ne_none_iff_exists'.1 (none_no t (Nat.le_refl _))
 obtain⟨b1,b2,b3,b4⟩:=ZfM (u:=t) t 0 _ B hA (ZcR _ _) (by omega) (fun _=>Nat.zero_le _) hB
 obtain⟨c1,c2,c3,c4⟩:=ZfM (u:=t) t 0 _ B' hA (ZcR _ _) (by omega) (fun _=>Nat.zero_le _) hB'
 have hy:El (fun j=>if j<t then B' j t else 1):=fun j=>by
  show(if j<t then B' j t else 1)<16
  split
  ·exact c1 j t
  ·decide
 have hW:=Zq3 hE hX h0 hx0 hd hs hy h2 ((c4 _ hy).1 ((ZmW c1 c2 c3 hy (if_neg (Nat.lt_irrefl _))).2 ⟨fun j hj=>if_pos hj,fun i h1 h2=>by omega⟩))
 have hZ:ZA (poM s t) (s.length-t) t (fun j=>if j<t then B' j t else 1):=fun j hj=>by
  rw[ZtP hE hX hs t hy (by omega)]
  exact Znp (fun k=>Zbv (hX k) _) t (fun k hk=>by rw[hW k hk,Zcl (hE k)])
 obtain⟨q1,q2⟩:=(ZmW b1 b2 b3 hy (if_neg (Nat.lt_irrefl _))).1 ((b4 _ hy).2 hZ)
 refine⟨B,?_,b1,?_⟩
 ·unfold poC poB
  rw[hB]
  refine if_pos ?_
  unfold fiZ
  rw[List.all_eq_true]
  intro i hi
  rw[Bool.or_eq_true,decide_eq_true_eq,decide_eq_true_eq]
  by_cases h1:i<t
  ·exact Or.inl h1
  ·exact Or.inr (q2 i (by omega) (List.mem_range.1 hi))
 ·have e:(fun j=>if j<t then B j t else 1)=fun j=>if j<t then B' j t else 1:=by
   funext j
   by_cases hj:j<t
   ·have:=q1 j hj
    rw[if_pos hj]at this
    rw[if_pos hj,if_pos hj,this]
   ·rw[if_neg hj,if_neg hj]
  rw[e];exact hW
end
end Go.Proofs.Ytklbmkllepkjcaa
/- The places that the syndromes determine are the places of the errors. No condition. -/
namespace Go.Proofs.Ytklbmkllepkjcaa
theorem ZzO{x z:Nat}(hx:x<16)(hz:z<16)(h:Zav x z=1):∀n,Zav (pw x n) (pw z n)=1
 |0=>by rw[pw,pw];rfl
 |n+1=>by
  have a:=Zbv hx n
  have b:=Zbv hz n
  rw[pw,pw,Zbh b hz,ZaJ a hx (ZbJ hz b),←ZaJ hx hz b,h,Zoy b,ZzO hx hz h n]
theorem ZMp{z:Nat}(hz:z<16)(n:Nat):Zav z (pw z n)=pw z (n+1):=by rw[pw,Zbh hz (Zbv hz n)]
theorem Zq9{z:Nat}(hz:z<16)(a:Nat):∀(l:List Nat) (m t:Nat),t<16→evP z m t (l++[a])=evP z m t l ^^^ Zav a (Zav t (pw z (l.length+1)))
 |[],m,t,_=>by rw[List.nil_append,evP,evP,evP,List.length_nil,pw,pw,Zoy hz]
 |b::l,m,t,ht=>by
  rw[List.cons_append,evP,evP,Zq9 hz a l _ _ (ZbJ ht hz),ZaJ ht hz (Zbv hz _),ZMp hz,List.length_cons]
theorem Zuf{z:Nat}(hz:z<16):∀(l:List Nat) (m t:Nat),m<16→t<16→(∀a∈l,a<16)→evP z m t l<16
 |[],_,_,h,_,_=>h
 |a::l,m,t,hm,ht,hl=>by
  rw[evP]
  exact Zuf hz l _ _ (Zcj hm (ZbJ (hl a List.mem_cons_self) (ZbJ ht hz))) (ZbJ ht hz) (fun b hb=>hl b (List.mem_cons_of_mem _ hb))
theorem ZBb{x z:Nat}(hx:x<16)(hz:z<16)(h:Zav x z=1){y:Nat→Nat}(hy:El y):∀n,Zav (pw x n) (evP z 1 1 ((List.range n).map y))=pw x n ^^^ hn y x n
 |0=>by rw[pw,hn,List.range_zero,List.map_nil,evP];rfl
 |n+1=>by
  have a:=Zbv hx n
  have l:=Zuf hz ((List.range n).map y) 1 1 (by decide) (by decide) (fun b hb=>by obtain⟨i,_,rfl⟩:=List.mem_map.1 hb;exact hy i)
  have k:=Zbv hz (n+1)
  have a1:=Zbv hx (n+1)
  rw[List.range_succ,List.map_append,List.map_cons,List.map_nil,Zq9 hz (y n) _ _ _ (by decide),List.length_map,List.length_range,Zoy k,ZB3 l (ZbJ (hy n) k) a1,Zbh (hy n) k,←ZaJ a1 k (hy n),ZzO hx hz h,Zoy (hy n),hn,pw,ZaJ a hx l,Zbh hx l,←ZaJ a l hx,ZBb hx hz h hy n,Zc2 a (ZkS hy hx n) hx,Nat.xor_assoc]
section
variable {E X:Nat→Nat}{t:Nat}{s:List Int}{D:List Nat}(hE:El E)(h0:∀k,k<t→E k≠0)(hD:D.Nodup)(hl:D.length=t)(hp:∀p∈D,p<15)
 (hs:∀m,m<s.length→s.getD m 0=((dt E (fun k=>pw (ZbH (14-D.getD k 0)) (m+1)) t:Nat):Int))
include hE h0 hD hl hp hs
theorem ZBA(hel:s.all elB=true)(h2:2*t≤s.length):poO s t=true∧ZkQ s t=((List.range 15).filter fun i=>decide (i∈D)).map fun i:Nat=>(i:Int):=by
 have hX:El fun k=>ZbH (14-D.getD k 0):=fun _=>Zcc _
 have nodup:∀i j,i<t→j<t→D.getD i 0=D.getD j 0→i=j:=fun i j hi hj he=>by
  rw[List.getD_eq_getElem?_getD,List.getElem?_eq_getElem (by omega),List.getD_eq_getElem?_getD,List.getElem?_eq_getElem (by omega)]at he
  exact(List.getElem_inj hD).1 he
 have hd:∀i j,i<t→j<t→ZbH (14-D.getD i 0)=ZbH (14-D.getD j 0)→i=j:=fun i j hi hj he=>by
  have a:=hp _ (Zbq (xs:=D) (d:=0) (by omega:i<D.length))
  have b:=hp _ (Zbq (xs:=D) (d:=0) (by omega:j<D.length))
  have:=Zqw (by omega) (by omega) he
  exact nodup i j hi hj (by omega)
 obtain⟨B,q1,q2,q3⟩:=ZFI hE hX h0 (fun k _=>ZsB _) hd hs hel h2
 have hy:El (fun j=>if j<t then B j t else 1):=fun j=>by
  show(if j<t then B j t else 1)<16
  split
  ·exact q2 j t
  ·decide
 have hc:cN B t=(List.range t).map fun j=>if j<t then B j t else 1:=by
  unfold cN
  exact List.map_congr_left fun j hj=>by rw[if_pos (List.mem_range.1 hj)]
 have root:∀i,i<15→((evP (zN i) 1 1 (cN B t)==0)=true↔WK (ZbH (14-i)) t (fun j=>if j<t then B j t else 1)=0):=fun i hi=>by
  obtain⟨z1,z2⟩:=Zzz (Zcc (14-i)) (ZsB (14-i))
  have e:=ZBb (Zcc (14-i)) z1 z2 hy t
  have l:=Zuf z1 ((List.range t).map fun j=>if j<t then B j t else 1) 1 1 (by decide) (by decide) (fun b hb=>by obtain⟨i,_,rfl⟩:=List.mem_map.1 hb;exact hy i)
  have w:=ZEB hy (Zcc (14-i)) t
  rw[if_neg (Nat.lt_irrefl _),ZiK (Zbv (Zcc _) _),Nat.xor_comm]at w
  rw[w,←e,hc,beq_iff_eq]
  constructor
  ·intro a
   unfold zN at a
   rw[a,Zcl (Zbv (Zcc _) _)]
  ·intro a
   rcases Zb1 (Zbv (Zcc _) _) l a with a |a
   ·exact absurd a (ZEp (Zcc _) (ZsB _) _)
   ·exact a
 have mem:∀i,i<15→(WK (ZbH (14-i)) t (fun j=>if j<t then B j t else 1)=0↔i∈D):=fun i hi=>by
  constructor
  ·intro a
   by_cases hm:i∈D
   ·exact hm
   ·exfalso
    have hq:El (fun n=>if n=0 then 1 else if n-1<t then B (n-1) t else 1):=fun n=>by
     show(if n=0 then 1 else if n-1<t then B (n-1) t else 1)<16
     split
     ·decide
     ·exact hy (n-1)
    have hX':El (fun k=>if k<t then ZbH (14-D.getD k 0)else ZbH (14-i)):=fun k=>by
     show(if k<t then ZbH (14-D.getD k 0)else ZbH (14-i))<16
     split<;>exact Zcc _
    have wq:∀x,x<16→hn (fun n=>if n=0 then 1 else if n-1<t then B (n-1) t else 1) x (t+1)=WK x t (fun j=>if j<t then B j t else 1):=fun x hx=>by
     rw[ZrJ hq hx,ZEB hy hx,if_neg (Nat.lt_irrefl _),Nat.xor_comm]
     rfl
    have ne:∀k,k<t→ZbH (14-D.getD k 0)≠ZbH (14-i):=fun k hk he=>by
     have b:=Zbq (xs:=D) (d:=0) (by omega:k<D.length)
     have:=Zqw (by omega) (by omega) he
     have c:=hp _ b
     exact hm ((show i=D.getD k 0 by omega)▸b)
    have:=Zid (t+1) _ _ hq hX' (fun k j hk hj he=>by
     by_cases h1:k<t
     ·by_cases h2:j<t
      ·rw[if_pos h1,if_pos h2]at he;exact hd k j h1 h2 he
      ·rw[if_pos h1,if_neg h2]at he;exact absurd he (ne k h1)
     ·by_cases h2:j<t
      ·rw[if_neg h1,if_pos h2]at he;exact absurd he.symm (ne j h2)
      ·omega) (fun k hk=>by
     rw[wq _ (hX' k)]
     show WK (if k<t then ZbH (14-D.getD k 0)else ZbH (14-i)) t _=0
     by_cases h1:k<t
     ·rw[if_pos h1];exact q3 k h1
     ·rw[if_neg h1];exact a) 0 (by omega)
    rw[if_pos rfl]at this
    exact absurd this (by decide)
  ·intro a
   obtain⟨k,hk,e⟩:=List.mem_iff_getElem.1 a
   have:=q3 k (by omega)
   rwa[List.getD_eq_getElem?_getD,List.getElem?_eq_getElem hk,Option.getD_some,e]at this
 have hX2:poX (cN B t) 15=((List.range 15).filter fun i=>decide (i∈D)).map fun i:Nat=>(i:Int):=by
  unfold poX
  congr 1
  refine List.filter_congr fun i hi=>?_
  have hi:=List.mem_range.1 hi
  rw[Bool.eq_iff_iff,root i hi,mem i hi,decide_eq_true_eq]
 constructor
 ·unfold poO
  rw[q1]
  refine decide_eq_true ?_
  rw[hX2,List.length_map,←hl]
  refine List.Perm.length_eq ?_
  refine(List.perm_ext_iff_of_nodup (List.nodup_range.sublist List.filter_sublist) hD).2 fun i=>?_
  rw[List.mem_filter,List.mem_range,decide_eq_true_eq]
  exact⟨fun a=>a.2,fun a=>⟨hp i a,a⟩⟩
 ·unfold ZkQ
  rw[q1]
  exact hX2
end
end Go.Proofs.Ytklbmkllepkjcaa
/- The program's decoding and the reference's find the same word. No condition. -/
namespace Go.Proofs.Ytklbmkllepkjcaa
def dfL(w c:List Int):List Nat:=(List.range 15).filter fun i=>decide (w.getD i 0≠c.getD i 0)
theorem Zkn:∀xs ys:List Int,xs.length=ys.length→Zbd xs ys=(((List.range xs.length).filter fun i=>decide (xs.getD i 0≠ys.getD i 0)).length:Int)
 |[],[],_=>by simp[Zbd]
 |[],_::_,h=>by cases h
 |_::_,[],h=>by cases h
 |x::xs,y::ys,h=>by
  have ih:=Zkn xs ys (by simpa using h)
  rw[Zbd,ih,List.length_cons,List.range_succ_eq_map,List.filter_cons,List.filter_map]
  by_cases hq:x=y
  ·simp[hq,Function.comp_def]
  ·simp[hq,Function.comp_def];omega
theorem ZkB{w c:List Int}(hw:w.length=15)(hc:c.length=15):Zbd w c=((dfL w c).length:Int):=by
 have:=Zkn w c (by omega)
 rwa[hw]at this
theorem df_mem{w c:List Int}{i:Nat} :i∈dfL w c↔i<15∧w.getD i 0≠c.getD i 0:=by
 unfold dfL;rw[List.mem_filter,List.mem_range,decide_eq_true_eq]
theorem Zi0(w c:List Int):(dfL w c).Nodup:=List.nodup_range.sublist List.filter_sublist
theorem ZKV{w c:List Int}{l:List Nat}(h:∀i,i<15→w.getD i 0≠c.getD i 0→i∈l):(dfL w c).length≤l.length:=
 (Zi0 w c).length_le_of_subset fun i hi=>h i (df_mem.1 hi).1 (df_mem.1 hi).2
theorem Zri{w c:List Int}(hw:ZaP w 0 15=0)(hc:ZaP c 0 15=0)(i:Nat):wfn w i=wfn c i↔w.getD i 0=c.getD i 0:=by
 have a:=of_decide_eq_true (ZiV hw i)
 have b:=of_decide_eq_true (ZiV hc i)
 unfold wfn;omega
theorem Zu8{h:Int}{c:List Int}(hc:c.length=15)(hi:isW h c=true){j:Nat}(hj:j<2*h.toNat):ZoY (j+1) (wfn c)=0:=(Zuw hc).1 hi j hj
theorem ZvG{h:Int}{w c d:List Int}(hw:okw w=true)(hc:okw c=true)(hd:okw d=true)(ic:isW h c=true)(id:isW h d=true)(dc:Zbd w c≤h)(dd:Zbd w d≤h):c=d:=by
 obtain⟨w1,w2⟩:=okw_iff.1 hw
 obtain⟨c1,c2⟩:=okw_iff.1 hc
 obtain⟨d1,d2⟩:=okw_iff.1 hd
 rw[ZkB w1 c1]at dc
 rw[ZkB w1 d1]at dd
 have hl:(dfL c d).length≤2*h.toNat:=by
  have:=ZKV (w:=c) (c:=d) (l:=dfL w c++dfL w d) (fun i hi hne=>by
   rw[List.mem_append,df_mem,df_mem]
   by_cases q:w.getD i 0=c.getD i 0
   ·exact Or.inr ⟨hi,fun a=>hne (q.symm.trans a)⟩
   ·exact Or.inl ⟨hi,q⟩)
  rw[List.length_append]at this
  omega
 have z:=Zut (m:=2*h.toNat) (c:=fun i=>wfn c i ^^^ wfn d i) (fun i=>Zcj (ZdX c2 i) (ZdX d2 i)) (dfL c d) (fun p hp=>(df_mem.1 hp).1) (Zi0 c d) hl (fun i hi hn=>by
  have:c.getD i 0=d.getD i 0:=Decidable.byContradiction fun a=>hn (df_mem.2 ⟨hi,a⟩)
  show wfn c i ^^^ wfn d i=0
  rw[(Zri c2 d2 i).2 this,Nat.xor_self]) (fun j hj=>by
  unfold ZoY
  rw[ZrD (ZdX c2) (ZdX d2) (ZgX _)]
  have a:=Zu8 c1 ic hj
  have b:=Zu8 d1 id hj
  unfold ZoY at a b
  rw[a,b,Nat.xor_self])
 refine List.ext_getElem (by omega) fun i h1 h2=>?_
 have:=(Zri c2 d2 i).1 (Zm3 (z i (by omega)))
 rwa[List.getD_eq_getElem?_getD,List.getElem?_eq_getElem h1,List.getD_eq_getElem?_getD,List.getElem?_eq_getElem h2]at this
theorem ZBM{h:Int}{w e:List Int}(hg:fiG w h e=true):Zbd w (fiW h w e)≤e.length:=by
 obtain⟨g1,g2,g3,g4,g5⟩:=ZiJ hg
 obtain⟨w1,w2⟩:=okw_iff.1 g1
 obtain⟨f1,f2⟩:=okw_iff.1 (Zr1 hg)
 rw[ZkB w1 f1]
 have hp:=ZjF g4
 have:=ZKV (w:=w) (c:=fiW h w e) (l:=e.map Int.toNat) (fun i hi hne=>by
  by_cases hm:(i:Int)∈e
  ·exact List.mem_map.2 ⟨_,hm,rfl⟩
  ·exfalso
   apply hne
   have hx:∀x∈e,x≠(i:Int):=fun x hx a=>hm (a▸hx)
   unfold fiW
   split
   ·rw[Zja e w i hp,if_neg hm]
   ·rw[Zww e _ _ i hp hx,Zja e w i hp,if_neg hm])
 rw[List.length_map]at this
 omega
def dfI(w c:List Int):List Int:=(dfL w c).map fun i:Nat=>(i:Int)
theorem ZEX{h:Int}{w c:List Int}(hw:okw w=true)(hc:okw c=true)(ic:isW h c=true)(dc:Zbd w c≤h):poO (syL w (2*h.toNat)) (dfL w c).length=true∧ZkQ (syL w (2*h.toNat)) (dfL w c).length=dfI w c:=by
 obtain⟨w1,w2⟩:=okw_iff.1 hw
 obtain⟨c1,c2⟩:=okw_iff.1 hc
 rw[ZkB w1 c1]at dc
 have hE:El fun k=>wfn w ((dfL w c).getD k 0) ^^^ wfn c ((dfL w c).getD k 0):=fun k=>Zcj (ZdX w2 _) (ZdX c2 _)
 have hx:El fun i=>wfn w i ^^^ wfn c i:=fun k=>Zcj (ZdX w2 _) (ZdX c2 _)
 have hl:=Zjs w (2*h.toNat)
 have r:=ZBA (s:=syL w (2*h.toNat)) (t:=(dfL w c).length) hE (fun k hk a=>by
  have m:=df_mem.1 (Zbq (xs:=dfL w c) (d:=0) hk)
  exact m.2 ((Zri w2 c2 _).1 (Zm3 a))) (Zi0 w c) rfl (fun p hp=>(df_mem.1 hp).1) (fun m hm=>by
  rw[hl]at hm
  have e:(syL w (2*h.toNat)).getD m 0=syI w (m+1):=by
   unfold syL
   rw[List.getD_eq_getElem?_getD,List.getElem?_map,List.getElem?_range hm];rfl
  rw[e,Zi7 w1]
  congr 1
  have a:=Zu8 c1 ic hm
  have b:=ZrD (ZdX w2) (ZdX c2) (ZgX (m+1)) 15
  unfold ZoY at a
  rw[a,Nat.xor_zero]at b
  unfold ZoY
  rw[←b,ZnC _ (ZgX (m+1)) (dfL w c) (fun p hp=>(df_mem.1 hp).1) (Zi0 w c) _ hx (fun i hi hn=>by
   have:w.getD i 0=c.getD i 0:=Decidable.byContradiction fun a=>hn (df_mem.2 ⟨hi,a⟩)
   show wfn w i ^^^ wfn c i=0
   rw[(Zri w2 c2 i).2 this,Nat.xor_self])]
  exact ZaM _ (fun _ _=>rfl) (fun k _=>by rw[Zrv])) (ZBc w2 _) (by omega)
 refine⟨r.1,r.2.trans ?_⟩
 unfold dfI
 congr 1
 unfold dfL
 refine List.filter_congr fun i hi=>?_
 rw[Bool.eq_iff_iff,decide_eq_true_eq,decide_eq_true_eq]
 exact df_mem.trans ⟨fun a=>a.2,fun a=>⟨List.mem_range.1 hi,a⟩⟩
theorem ZEZ{w c:List Int} :∀p:Nat,p<15→(p:Int)∉dfI w c→w.getD p 0=c.getD p 0:=fun p hp hn=>
 Decidable.byContradiction fun a=>hn (List.mem_map.2 ⟨p,df_mem.2 ⟨hp,a⟩,rfl⟩)
theorem Znc{h:Int}{w:List Int}(hw:okw w=true)(hh:hfB h=true):∀(k u:Nat) (x:List Int),u+k≤h.toNat+1→deR h w k u=some x→okw x=true∧isW h x=true∧Zbd w x≤h
 |0,_,_,_,e=>by cases e
 |k+1,u,x,hk,e=>by
  have h2:=of_decide_eq_true hh
  rw[deR]at e
  split at e
  ·rename_i hc
   have hg:=ZCx (u:=u) hw hh (by omega) hc.1
   have hv:=ZQp hc.2
   rw[hv]at e
   cases e
   have n:=ZBM hg
   have hl:(ZkQ (syL w (2*h.toNat)) u).length=u:=by
    have o:=hc.1
    unfold poO at o
    unfold ZkQ
    cases hq:poC (syL w (2*h.toNat)) u with
    |none=>rw[hq]at o;cases o
    |some c=>rw[hq]at o;exact of_decide_eq_true o
   refine⟨Zr1 hg,(Zqa hg).symm.trans hc.2,?_⟩
   rw[hl]at n
   omega
  ·exact Znc hw hh k (u+1) x (by omega) e
theorem Zug{h:Int}{w c:List Int}(hw:okw w=true)(hh:hfB h=true)(hc:okw c=true)(ic:isW h c=true)(dc:Zbd w c≤h):∀(k u:Nat),u≤(dfL w c).length→(dfL w c).length<u+k→deR h w k u≠none
 |0,u,h1,h2,_=>by omega
 |k+1,u,h1,h2,e=>by
  rw[deR]at e
  split at e
  ·cases e
  ·rename_i hn
   by_cases hu:u=(dfL w c).length
   ·subst hu
    obtain⟨p1,p2⟩:=ZEX hw hc ic dc
    have h3:=of_decide_eq_true hh
    have hd:=ZkB (okw_iff.1 hw).1 (okw_iff.1 hc).1
    have hg:=ZCx hw hh (by omega) p1
    refine hn ⟨p1,?_⟩
    rw[Zqa hg,p2]
    rw[p2]at hg
    rw[ZDR hg hc ic ZEZ]
    exact ic
   ·exact Zug hw hh hc ic dc k (u+1) (by omega) (by omega) e
theorem ZAx{h:Int}{w:List Int}(hw:okw w=true)(hh:hfB h=true)(x:List Int):deO h w=some x↔okw x=true∧isW h x=true∧Zbd w x≤h:=by
 unfold deO
 constructor
 ·exact Znc hw hh _ _ x (by omega)
 ·rintro⟨a,b,c⟩
  have h3:=of_decide_eq_true hh
  have hd:=ZkB (okw_iff.1 hw).1 (okw_iff.1 a).1
  obtain⟨y,hy⟩:=Option.ne_none_iff_exists'.1 (Zug hw hh a b c (h.toNat+1) 0 (by omega) (by omega))
  obtain⟨y1,y2,y3⟩:=Znc hw hh _ _ y (by omega) hy
  have:=ZvG hw a y1 b y2 c y3
  subst this
  exact hy
end Go.Proofs.Ytklbmkllepkjcaa
/- The encoded word: a word of the code, the data in front. No condition. -/
namespace Go.Proofs.Ytklbmkllepkjcaa
theorem ZIo{h:Int}{w e:List Int}(hp:ZFn e){i:Nat}(hm:(i:Int)∉e):(fiW h w e).getD i 0=w.getD i 0:=by
 have hx:∀x∈e,x≠(i:Int):=fun x hx a=>hm (a▸hx)
 unfold fiW
 split
 ·rw[Zja e w i hp,if_neg hm]
 ·rw[Zww e _ _ i hp hx,Zja e w i hp,if_neg hm]
theorem Zwr{h:Int}{d:List Int}(g:daB h d=true):okw (enW h d)=true∧isW h (enW h d)=true:=by
 have hg:=ZoJ g
 refine⟨Zr1 hg,?_⟩
 have:=Zqa hg
 rw[(ZAW g).2]at this
 exact this.symm
theorem ZCc{h:Int}{w c:List Int}(hw:okw w=true)(hh:hfB h=true)(hc:okw c=true)(ic:isW h c=true)(dc:Zbd w c≤h):(deO h w).isSome=true∧deV h w=c:=by
 have:=(ZAx hw hh c).2 ⟨hc,ic,dc⟩
 unfold deV
 rw[this]
 exact⟨rfl,rfl⟩
theorem Zwn{h:Int}{w:List Int}(hw:okw w=true)(hh:hfB h=true)(hs:(deO h w).isSome=true):okw (deV h w)=true∧isW h (deV h w)=true∧deN h w=Zbd w (deV h w)∧deN h w≤h:=by
 obtain⟨x,hx⟩:=Option.isSome_iff_exists.1 hs
 obtain⟨a,b,c⟩:=(ZAx hw hh x).1 hx
 unfold deV deN
 rw[hx]
 exact⟨a,b,rfl,c⟩
end Go.Proofs.Ytklbmkllepkjcaa
